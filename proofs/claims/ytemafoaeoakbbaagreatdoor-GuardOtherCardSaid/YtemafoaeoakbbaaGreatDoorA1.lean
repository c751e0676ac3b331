/-
  What 'tr' tells of an operation is what the machine does: all operations together.
-/
import Derived.Test.YtemafoaeoakbbaaGreatDoorA0
import Derived.RangeFuncIn
import Derived.RangeFuncCalls
import Derived.OwnWalkIn
import Derived.OrdersIn

set_option linter.unusedSimpArgs false
set_option linter.unusedVariables false

namespace Go.X
open Go.RowKit

section
variable {P : Program} {G : Nat → World → Prop} {TT : TypeId → Option TD} {C : Nat → Option Con} {Y : List (List AV) → List AV → Option (Prop × Bool)} {c : Ctx} {st : St} {e : Env} {a : Act} {w : World} {o : Oper}

theorem tr_append {A : Operand → AV} {fb fr : Nat} {x y : Operand} {t : TypeId} {res : Res} (hTT : TTOK P TT) (hh : HeapOK c e st w) (ho : o.op = .call { callee := .builtin .append, args := #[x, y], argTypes := #[t, t] }) (hA : ∀ z ∈ o.op.operands.toList, R st e (A z) (a.eval z))
    (htr : trAppend TT A (look st) fr x y t = some res) (hp : ∀ p ∈ res.pre, p) (hfr : ∀ j, fr ≤ j → j < fr + res.eff.news → getK none st.rows j = none) : Goes P c st e a w o res.eff.kills (res.eff.apply fb fr st) res.av := by
  rw [ho] at hA
  have hx := hA x (by simp [Op.operands, Call.operands])
  have hy := hA y (by simp [Op.operands, Call.operands])
  unfold trAppend at htr
  split at htr
  · rename_i sv d hsv hd
    split at htr
    · rename_i r' E hrl hk
      have hT : P.underlying t = some (.slice E) := TT_k hTT hd hk
      split at htr
      · rename_i de hde
        split at htr
        · rename_i id r hr
          obtain ⟨he, hr⟩ := look_row hr
          rw [he] at hx
          split at htr
          · rename_i hown
            split at htr
            · rename_i m hm
              split at htr
              · rename_i hc
                cases htr
                exact op_append hh ho hT (hTT _ _ hde) hc.1 hc.2.1 hr hown hc.2.2 hsv hrl hm hx hy (hp _ (by simp)) (hp _ (by simp))
              · cases htr
            · cases htr
          · cases htr
        · rename_i hr
          have he := look_a hr
          rw [he] at hx
          split at htr
          · rename_i hc
            cases htr
            exact op_append_nils hh ho hT (hTT _ _ hde) hc.1 hc.2 hsv hrl (hfr fr (Nat.le_refl _) (by simp [Eff.news])) hx hy (hp _ (by simp)) (hp _ (by simp))
          · cases htr
        · cases htr
      · cases htr
    · cases htr
  · cases htr

theorem tr_builtin {A : Operand → AV} {fb fr : Nat} {cl : Call} {b : Builtin} {res : Res} (hTT : TTOK P TT) (hh : HeapOK c e st w) (ho : o.op = .call cl) (hcl : cl.callee = .builtin b) (hA : ∀ z ∈ o.op.operands.toList, R st e (A z) (a.eval z))
    (htr : trBuiltin TT A (look st) fr b cl.args.toList cl.argTypes.toList = some res) (hp : ∀ p ∈ res.pre, p) (hfr : ∀ j, fr ≤ j → j < fr + res.eff.news → getK none st.rows j = none) : Goes P c st e a w o res.eff.kills (res.eff.apply fb fr st) res.av := by
  obtain ⟨callee, args, ts⟩ := cl
  simp only at hcl htr
  subst hcl
  unfold trBuiltin at htr
  split at htr
  · rename_i x t hargs hts
    obtain rfl : args = #[x] := Array.ext' (by simpa using hargs)
    obtain rfl : ts = #[t] := Array.ext' (by simpa using hts)
    have hA' := hA
    rw [ho] at hA'
    have hx := hA' x (by simp [Op.operands, Call.operands])
    split at htr
    · unfold trLen at htr
      split at htr
      · rename_i s d hs hd
        rw [look_a hs] at hx
        split at htr
        · rename_i hk; cases htr; exact op_len_s hh ho rfl rfl (TT_k hTT hd hk) hx
        · cases htr
      · rename_i id r d hr hd
        obtain ⟨he, hr⟩ := look_row hr
        rw [he] at hx
        split at htr
        · rename_i hk; cases htr; exact op_len_row hh ho rfl rfl (TT_k hTT hd hk) hr hx
        · cases htr
      · rename_i id lo hi ex r d hr hd
        obtain ⟨he, hr⟩ := look_view hr
        rw [he] at hx
        split at htr
        · rename_i hk; cases htr; exact op_len_view hh ho rfl rfl (TT_k hTT hd hk) hx
        · cases htr
      · rename_i d hs hd
        rw [look_a hs] at hx
        split at htr
        · rename_i hk; cases htr; exact op_len_nils hh ho rfl rfl (TT_k hTT hd hk) hx
        · cases htr
      · cases htr
    · unfold trClear at htr
      split at htr
      · rename_i id lo hi ex r d hr hd
        obtain ⟨he, hr⟩ := look_view hr
        rw [he] at hx
        split at htr
        · rename_i E hk
          split at htr
          · rename_i de hde
            split at htr
            · rename_i k hek
              split at htr
              · rename_i hc
                cases htr
                obtain ⟨hc1, hc2, rfl⟩ := hc
                exact op_clear hh ho (TT_k hTT hd hk) (hTT _ _ hde) hek hr hc1 hx (hp _ (List.mem_singleton.2 rfl))
              · cases htr
            · cases htr
          · cases htr
        · cases htr
      · cases htr
    · cases htr
  · rename_i x y hargs
    obtain rfl : args = #[x, y] := Array.ext' (by simpa using hargs)
    have hA' := hA
    rw [ho] at hA'
    have hx := hA' x (by simp [Op.operands, Call.operands])
    have hy := hA' y (by simp [Op.operands, Call.operands])
    split at htr
    · split at htr
      · rename_i k m k' n h1 h2
        rw [h1] at hx; rw [h2] at hy
        split at htr
        · rename_i hk; subst hk; cases htr; exact op_min hh ho rfl hx hy
        · cases htr
      · cases htr
    · split at htr
      · rename_i k m k' n h1 h2
        rw [h1] at hx; rw [h2] at hy
        split at htr
        · rename_i hk; subst hk; cases htr; exact op_max hh ho rfl hx hy
        · cases htr
      · cases htr
    · split at htr
      · rename_i t t' hts
        obtain rfl : ts = #[t, t'] := Array.ext' (by simpa using hts)
        split at htr
        · rename_i htt
          subst htt
          exact tr_append hTT hh ho hA htr hp hfr
        · cases htr
      · cases htr
    · cases htr
  · cases htr

theorem op_indexA {T E m : Nat} {x i : Operand} {l : List AV} {k : IntKind} {n : Int} {de : TD} (hh : HeapOK c e st w) (ho : o.op = .index T x i) (hT : P.underlying T = some (.array m E)) (hde : TDOK P E de) (hx : R st e (.agg l) (a.eval x)) (hi : a.eval i = .int k n)
    (hk : de.k.isAgg = false) (h1 : de.size = 1) (h0 : 0 ≤ n) (hn : n < m) (hl : n.toNat < l.length) : Goes P c st e a w o [] st (getK .any l n.toNat) := by
  obtain ⟨vs, hv, hvs⟩ := hx
  have hs := run_size (w := w) hde
  have hp := part_run (w := w) hde vs n.toNat
  have hlen := RL_length hvs
  have hvn : vs[n.toNat]? = some vs[n.toNat] := List.getElem?_eq_getElem (by omega)
  rw [hk, hvn] at hp
  simp only [Bool.false_eq_true, if_false] at hp
  refine goes_value (v := vs[n.toNat]) hh ?_ ?_
  · simp [execOp, ho, hv, hi, Instr.index, asIntOf, run_underlying hT, h0, hn, hs, h1, hp]
  · have := RL_get hvs n.toNat
    rwa [hvn] at this

set_option maxHeartbeats 1000000 in
theorem tr_goes {A : Operand → AV} {fb fr : Nat} {av : AV} {pre : List Prop} {eff : Eff} (hny : ∀ l, eff ≠ .yield l) (hTT : TTOK P TT) (hC : ∀ f con, C f = some con → ConOK P G f con) (hgood : ∀ w, Frame c w → G c.g0 w)
    (hh : HeapOK c e st w) (hA : ∀ y ∈ o.op.operands.toList, R st e (A y) (a.eval y)) (htr : tr TT C Y A (look st) (resolve st) st.ys fb fr o.op = some ⟨pre, av, eff⟩) (hp : ∀ p ∈ pre, p)
    (hfb : ∀ j, fb ≤ j → j < fb + eff.newsB → getK none st.boxes j = none) (hfr : ∀ j, fr ≤ j → j < fr + eff.news → getK none st.rows j = none) : Goes P c st e a w o eff.kills (eff.apply fb fr st) av := by
  cases hop : o.op with
  | move x =>
    rw [hop] at htr hA; simp only [tr, Option.some.injEq, Res.mk.injEq] at htr; obtain ⟨rfl, rfl, rfl⟩ := htr
    exact op_move hh (.inl hop) (hA x (by simp [Op.operands]))
  | assign x =>
    rw [hop] at htr hA; simp only [tr, Option.some.injEq, Res.mk.injEq] at htr; obtain ⟨rfl, rfl, rfl⟩ := htr
    exact op_move hh (.inr hop) (hA x (by simp [Op.operands]))
  | pick cc x y =>
    have htr' := htr
    rw [hop] at htr'; simp only [tr] at htr'
    obtain ⟨h1, h2⟩ := tr_pick hh hop hA htr' hp
    simp only at h1; subst h1
    exact h2
  | alloc T =>
    rw [hop] at htr; simp only [tr] at htr
    split at htr
    · rename_i d hd
      split at htr
      · rename_i hbig; cases htr; exact op_alloc hh hop (hTT _ _ hd) hbig (hfb fb (Nat.le_refl _) (by simp [Eff.newsB]))
      · rename_i k n hbig; cases htr; exact op_allocArr hh hop (hTT _ _ hd) hbig (hfr fr (Nat.le_refl _) (by simp [Eff.news]))
    · cases htr
  | box T x =>
    rw [hop] at htr hA; simp only [tr] at htr
    split at htr
    · rename_i d l hd hl
      split at htr
      · cases htr; exact op_box hh hop (hA x (by simp [Op.operands])) hl (hfb fb (Nat.le_refl _) (by simp [Eff.newsB]))
      · cases htr
    · cases htr
  | build T parts =>
    rw [hop] at htr hA; simp only [tr] at htr
    have hA' : ∀ p ∈ parts.toList, R st e (A p.2) (a.eval p.2) := fun p hp => hA p.2 (by simp [Op.operands]; exact ⟨p.1, by simpa using hp⟩)
    split at htr
    · rename_i d hd
      split at htr
      · cases htr
      rename_i hbig
      split at htr
      · rename_i fs hk
        split at htr
        · rename_i places hpl
          split at htr
          · rename_i cells hf; cases htr
            exact op_build_struct hTT hh hop (hTT _ _ hd) hbig hk hpl hA' hf
          · cases htr
        · cases htr
      · rename_i n E hk
        split at htr
        · rename_i de hde
          split at htr
          · rename_i cells hf; cases htr
            exact op_build_arr hh hop (hTT _ _ hd) hbig hk (hTT _ _ hde) hA' hf
          · cases htr
        · cases htr
      · cases htr
    · cases htr
  | buildSlice T len parts =>
    rw [hop] at htr hA; simp only [tr] at htr
    have hA' : ∀ p ∈ parts.toList, R st e (A p.2) (a.eval p.2) := fun p hp => hA p.2 (by simp [Op.operands]; exact ⟨p.1, by simpa using hp⟩)
    split at htr
    · rename_i d hd
      split at htr
      · rename_i E hk
        split at htr
        · rename_i de hde
          split at htr
          · rename_i k hek
            split at htr
            · rename_i l hel
              split at htr
              · rename_i hc
                cases htr
                exact op_buildSlice hh hop (TT_k hTT hd hk) (hTT _ _ hde) hA' hel hc.1 hc.2.1 ((hTT _ _ hde).ek _ hek).2 hc.2.2 (hfr fr (Nat.le_refl _) (by simp [Eff.news]))
              · cases htr
            · cases htr
          · cases htr
        · cases htr
      · cases htr
    · cases htr
  | load T x =>
    rw [hop] at htr hA; simp only [tr] at htr
    have hx := hA x (by simp [Op.operands])
    split at htr
    · rename_i id off bx d hb hd
      obtain ⟨he, hb⟩ := look_box hb
      rw [he] at hx
      split at htr
      · rename_i hk
        split at htr
        · rename_i hc; cases htr; exact op_load_box hh hop (hTT _ _ hd) hb hx (.inl ⟨hk, hc, rfl⟩)
        · cases htr
      · rename_i hk
        split at htr
        · rename_i hc; cases htr; exact op_load_box hh hop (hTT _ _ hd) hb hx (.inr ⟨by simpa using hk, hc, rfl⟩)
        · cases htr
    · rename_i id ix sub r d hr hd
      obtain ⟨he, hr⟩ := look_elt hr
      rw [he] at hx
      split at htr
      · rename_i hk
        split at htr
        · rename_i hc; cases htr; exact op_load_elt hh hop (hTT _ _ hd) hr hx (.inl ⟨hk, hc, rfl⟩)
        · cases htr
      · rename_i hk
        split at htr
        · rename_i hc; cases htr; exact op_load_elt hh hop (hTT _ _ hd) hr hx (.inr ⟨by simpa using hk, hc, rfl⟩)
        · cases htr
    · cases htr
  | store T x y =>
    rw [hop] at htr hA; simp only [tr] at htr
    have hx := hA x (by simp [Op.operands])
    have hy := hA y (by simp [Op.operands])
    split at htr
    · rename_i id off bx d vs hb hd hvs
      obtain ⟨he, hb⟩ := look_box hb
      rw [he] at hx
      split at htr
      · rename_i hc; cases htr
        exact op_store_box hh hop (hTT _ _ hd) hb hc.1 hx hy hvs hc.2.1 hc.2.2
      · cases htr
    · rename_i id ix sub r d vs hr hd hvs
      obtain ⟨he, hr⟩ := look_elt hr
      rw [he] at hx
      split at htr
      · rename_i hc
        split at htr
        · rename_i v hv; cases htr
          rw [hc.2.2.2] at hx
          exact op_store_elt hh hop (hTT _ _ hd) hr hc.1 hx hy hvs hc.2.1 hv
        · cases htr
      · cases htr
    · cases htr
  | nilCheck x =>
    rw [hop] at htr hA; simp only [tr] at htr
    have hx := hA x (by simp [Op.operands])
    split at htr
    · rename_i id off h; cases htr; rw [h] at hx; exact op_nilCheck hh hop hx (.inl ⟨_, _, rfl⟩)
    · rename_i id ix sub h; cases htr; rw [h] at hx; exact op_nilCheck hh hop hx (.inr (.inl ⟨_, _, _, rfl⟩))
    · rename_i f caps h; cases htr; rw [h] at hx; exact op_nilCheck hh hop hx (.inr (.inr ⟨_, _, rfl⟩))
    · cases htr
  | binOp op T x y T' =>
    rw [hop] at htr hA; simp only [tr] at htr
    have hx := hA x (by simp [Op.operands])
    have hy := hA y (by simp [Op.operands])
    split at htr
    · rename_i k m k' n h1 h2
      rw [h1] at hx; rw [h2] at hy
      split at htr
      · split at htr
        · rename_i p v hb; cases htr; exact op_binI hh hop hx hy hb (.inr (.inl rfl)) hp
        · cases htr
      · split at htr
        · rename_i p v hb; cases htr; exact op_binI hh hop hx hy hb (.inr (.inr rfl)) hp
        · cases htr
      · split at htr
        · rename_i hk
          split at htr
          · rename_i p v hb; cases htr; exact op_binI hh hop hx hy hb (.inl hk) hp
          · cases htr
        · cases htr
    · rename_i m n h1 h2
      rw [h1] at hx; rw [h2] at hy
      split at htr
      · rename_i p v hb; cases htr; exact op_binS hh hop hx hy hb hp
      · cases htr
    · rename_i m n h1 h2
      rw [h1] at hx; rw [h2] at hy
      split at htr
      · rename_i d hd
        split at htr
        · rename_i hk; cases htr; exact op_binB hh hop (TT_k hTT hd hk) hx hy (.inl ⟨rfl, rfl⟩)
        · rename_i hk; cases htr; exact op_binB hh hop (TT_k hTT hd hk) hx hy (.inr ⟨rfl, rfl⟩)
        · cases htr
      · cases htr
    · rename_i l m h1 h2
      rw [h1] at hx; rw [h2] at hy
      obtain ⟨us, hxv, hl⟩ := hx
      obtain ⟨vs, hyv, hm⟩ := hy
      split at htr
      · rename_i d hd
        split at htr
        · rename_i k hes hek
          split at htr
          · rename_i u v hu hv
            obtain ⟨us', rfl, hl'⟩ := of_vals k _ _ _ _ hl hu
            obtain ⟨vs', rfl, hm'⟩ := of_vals k _ _ _ _ hm hv
            simp only [RL] at hl' hm'
            subst hl'; subst hm'
            rw [List.append_nil] at hxv hyv
            obtain ⟨hg, he⟩ := (hTT _ _ hd).eqs hes k hek
            split at htr
            · cases htr; exact op_binA hh hop hg (he u v w) hxv hyv (.inl ⟨rfl, rfl⟩)
            · cases htr; exact op_binA hh hop hg (he u v w) hxv hyv (.inr ⟨rfl, rfl⟩)
            · cases htr
          · cases htr
        · cases htr
      · cases htr
    · cases htr
  | unOp op T x =>
    rw [hop] at htr hA; simp only [tr] at htr
    have hx := hA x (by simp [Op.operands])
    split at htr
    · rename_i m h; cases htr; rw [h] at hx; exact op_not hh hop hx
    · rename_i k m h; cases htr; rw [h] at hx; exact op_neg hh hop hx
    · cases htr
  | convert src dst x =>
    rw [hop] at htr hA; simp only [tr] at htr
    have hx := hA x (by simp [Op.operands])
    split at htr
    · rename_i k m ds dd h hs hd
      rw [h] at hx
      split at htr
      · rename_i k1 k2 h1 h2; cases htr; exact op_convI hh hop (TT_k hTT hs h1) (TT_k hTT hd h2) hx
      · cases htr
    · rename_i m ds dd h hs hd
      rw [h] at hx
      split at htr
      · rename_i h1 h2; cases htr; exact op_convS hh hop (TT_k hTT hs h1) (TT_k hTT hd h2) hx
      · rename_i E h1 h2
        split at htr
        · rename_i de hde
          split at htr
          · rename_i hk; cases htr
            exact op_convSB hh hop (TT_k hTT hs h1) (TT_k hTT hd h2) (TT_k hTT hde hk) hx (hp _ (List.mem_singleton.2 rfl)) (hfr fr (Nat.le_refl _) (by simp [Eff.news]))
          · cases htr
        · cases htr
      · cases htr
    · rename_i ds dd hs hd _ _
      split at htr
      · rename_i E h1 h2
        split at htr
        · rename_i de hde
          split at htr
          · rename_i hk
            split at htr
            · rename_i id r hr
              obtain ⟨he, hr⟩ := look_row hr
              rw [he] at hx
              split at htr
              · rename_i l hl; cases htr
                obtain ⟨h3, h4, h5⟩ := castL_spec hl
                exact op_convBS hh hop (TT_k hTT hs h1) (TT_k hTT hd h2) (TT_k hTT hde hk) hr (by rw [← h4]; exact valsOf_byte l) h5 hx
              · rename_i l _ hl; cases htr
                obtain ⟨h3, h4, h5⟩ := castL_spec hl
                exact op_convBS hh hop (TT_k hTT hs h1) (TT_k hTT hd h2) (TT_k hTT hde hk) hr (by rw [← h4]; exact valsOf_u8 l) h5 hx
              · cases htr
            · rename_i hr
              rw [look_a hr] at hx
              cases htr
              exact op_convNS hh hop (TT_k hTT hs h1) (TT_k hTT hd h2) (TT_k hTT hde hk) hx
            · cases htr
          · cases htr
        · cases htr
      · cases htr
    · cases htr
  | makeFunc fn first caps =>
    rw [hop] at htr hA; simp only [tr] at htr
    split at htr
    · rename_i f h0; cases htr
      exact op_makeFunc hh hop h0 (by rw [listOf_eq]; exact RL_map fun y hy => hA y (by simp [Op.operands]; exact .inr (by simpa using hy)))
    · cases htr
  | slice T x lo hi mx =>
    have htr' := htr
    rw [hop] at htr'; simp only [tr] at htr'
    split at htr'
    · split at htr'
      · obtain ⟨h1, h2⟩ := tr_slice hTT hh hop hA htr' hp
        simp only at h1; subst h1
        exact h2
      · cases htr'
    · obtain ⟨h1, h2⟩ := tr_sliceR hTT hh hop hA htr' hp
      simp only at h1; subst h1
      exact h2
  | fieldAddr T x f =>
    rw [hop] at htr hA; simp only [tr] at htr
    have hx := hA x (by simp [Op.operands])
    split at htr
    · rename_i id off d h hd
      rw [h] at hx
      split at htr
      · rename_i fs hk
        split at htr
        · rename_i hf
          generalize hg : getK (0, 0) fs f = q at htr
          obtain ⟨oo, ft⟩ := q
          simp only at htr
          split at htr
          · rename_i fd hfd
            split at htr
            · cases htr
            · rename_i h0; cases htr
              obtain ⟨fields, hT, hfs⟩ := TT_k hTT hd hk
              exact op_fieldAddr hh hop hT hfs hf hg (hTT _ _ hfd) h0 (.inl ⟨id, off, hx, rfl⟩)
          · cases htr
        · cases htr
      · cases htr
    · rename_i id ix sub d h hd
      rw [h] at hx
      split at htr
      · rename_i fs hk
        split at htr
        · rename_i hf
          generalize hg : getK (0, 0) fs f = q at htr
          obtain ⟨oo, ft⟩ := q
          simp only at htr
          split at htr
          · rename_i fd hfd
            split at htr
            · cases htr
            · rename_i h0; cases htr
              obtain ⟨fields, hT, hfs⟩ := TT_k hTT hd hk
              exact op_fieldAddr hh hop hT hfs hf hg (hTT _ _ hfd) h0 (.inr ⟨id, ix, sub, hx, rfl⟩)
          · cases htr
        · cases htr
      · cases htr
    · cases htr
  | field T x f =>
    rw [hop] at htr hA; simp only [tr] at htr
    have hx := hA x (by simp [Op.operands])
    split at htr
    · rename_i l d h hd
      rw [h] at hx
      split at htr
      · rename_i fs hk
        split at htr
        · rename_i hf
          generalize hg : getK (0, 0) fs f = q at htr
          obtain ⟨oo, ft⟩ := q
          simp only at htr
          split at htr
          · rename_i fd hfd
            obtain ⟨fields, hT, hfs⟩ := TT_k hTT hd hk
            split at htr
            · rename_i hag
              split at htr
              · rename_i hc; cases htr; exact op_field hh hop hT hfs hf hg (hTT _ _ hfd) hx (.inl ⟨hag, hc, rfl⟩)
              · cases htr
            · rename_i hag
              split at htr
              · rename_i hc; cases htr; exact op_field hh hop hT hfs hf hg (hTT _ _ hfd) hx (.inr ⟨by simpa using hag, hc, rfl⟩)
              · cases htr
          · cases htr
        · cases htr
      · cases htr
    · cases htr
  | indexAddr T x i =>
    rw [hop] at htr hA; simp only [tr] at htr
    have hx := hA x (by simp [Op.operands])
    have hi := hA i (by simp [Op.operands])
    split at htr
    · rename_i id r k n d hr hn hd
      obtain ⟨he, hr⟩ := look_row hr
      rw [he] at hx; rw [hn] at hi
      split at htr
      · rename_i E hk
        split at htr
        · rename_i de hde
          split at htr
          · rename_i hc; cases htr
            exact op_indexAddr hh hop (TT_k hTT hd hk) (hTT _ _ hde) hr hc.1 hx hi (hp _ (List.mem_singleton.2 rfl))
          · cases htr
        · cases htr
      · cases htr
    · rename_i id lo hi' ex r k n d hr hn hd
      obtain ⟨he, hr⟩ := look_view hr
      rw [he] at hx; rw [hn] at hi
      split at htr
      · rename_i E hk
        split at htr
        · rename_i de hde
          split at htr
          · rename_i hc; cases htr
            exact op_indexView hh hop (TT_k hTT hd hk) (hTT _ _ hde) hr hc.1 hx hi (hp _ (List.mem_singleton.2 rfl))
          · cases htr
        · cases htr
      · cases htr
    · rename_i id r k n d hr hn hd
      obtain ⟨he, hr⟩ := look_arrp hr
      rw [he] at hx; rw [hn] at hi
      split at htr
      · rename_i m E hk
        split at htr
        · rename_i de hde
          split at htr
          · rename_i hc; cases htr
            exact op_indexArrp hh hop (TT_k hTT hd hk) (hTT _ _ hde) hr hc.1 hx hi (hp _ (List.mem_singleton.2 rfl))
          · cases htr
        · cases htr
      · cases htr
    · rename_i id off bx k n d hb hn hd
      obtain ⟨he, hb⟩ := look_box hb
      rw [he] at hx; rw [hn] at hi
      split at htr
      · rename_i m E hk
        split at htr
        · rename_i de hde
          split at htr
          · rename_i hc; cases htr
            exact op_indexBox hh hop (TT_k hTT hd hk) (hTT _ _ hde) hb hx hi ⟨hc.2.1, hc.2.2⟩
          · cases htr
        · cases htr
      · cases htr
    · cases htr
  | index T x i =>
    rw [hop] at htr hA; simp only [tr] at htr
    have hx := hA x (by simp [Op.operands])
    have hi := hA i (by simp [Op.operands])
    split at htr
    · rename_i s k n d h1 h2 hd
      rw [h1] at hx; rw [h2] at hi
      split at htr
      · rename_i hk; cases htr; exact op_indexS hh hop (TT_k hTT hd hk) hx hi (hp _ (List.mem_singleton.2 rfl))
      · cases htr
    · rename_i l k n d h1 h2 hd
      rw [h1] at hx; rw [h2] at hi
      split at htr
      · rename_i m E hk
        split at htr
        · rename_i de hde
          split at htr
          · cases htr
          · rename_i hag
            split at htr
            · rename_i hc; cases htr
              exact op_indexA hh hop (TT_k hTT hd hk) (hTT _ _ hde) hx hi (by simpa using hag) hc.1 hc.2.1 hc.2.2.1 hc.2.2.2
            · cases htr
        · cases htr
      · cases htr
    · cases htr
  | extract t ix =>
    rw [hop] at htr hA; simp only [tr] at htr
    have hx := hA t (by simp [Op.operands])
    split at htr
    · rename_i l h
      rw [h] at hx
      split at htr
      · rename_i hc; cases htr; exact op_extract hh hop hx hc
      · cases htr
    · cases htr
  | call cl =>
    have htr' := htr
    rw [hop] at htr'; simp only [tr] at htr'
    split at htr'
    · rename_i f hcl
      split at htr'
      · rename_i g caps hf
        obtain ⟨callee, args, ts⟩ := cl
        simp only at hcl; subst hcl
        exact tr_call hC hgood hh hop hA hf htr' hp hfb hfr
      · split at htr'
        · split at htr'
          · cases htr'; exact absurd rfl (hny _)
          · cases htr'
        · cases htr'
      · cases htr'
    · rename_i b hcl
      exact tr_builtin (fb := fb) hTT hh hop hcl hA htr' hp hfr
    · cases htr'
  | _ => rw [hop] at htr; simp [tr] at htr

/- ## Under a fence that lets all in, in a round or in none -/
def W (r : Option Nat) : Fence := { Fence.wide with round := r }

theorem callsW {r : Option Nat} {n : Nat} {P : Program} {f : FuncId} {args : Array Value} {w : World} {Q : Ending → World → Prop} : CallsIn (W r) n P f args w Q ↔ Calls P f args w Q := callsIn_wide (n := n) (P := P) (f := f) (args := args) (w := w) (R := Q)

theorem wp_in {r : Option Nat} {n : Nat} {K : Act → World → Prop} {Q : Exit → Act → World → Prop} (hd : ∀ cl, o.op ≠ .defer cl) (h : o.wp P a w K Q) : o.wpIn (W r) n P a w K Q := by
  refine ⟨fun _ _ => trivial, ?_⟩
  rw [Oper.semAt_plain (W r) a.eval o hd]
  unfold Oper.wp at h
  generalize (execOp a.eval o).run P w = res at h
  unfold Oper.upon at h
  unfold Oper.uponIn
  split at h
  · exact h
  · exact h
  · exact h
  · exact ⟨(fun h' => by cases h'), callsW.2 h⟩
  · rename_i row args w'
    refine ⟨fun h' => (by cases h'), fun c cs _ => ?_⟩
    obtain ⟨v, w2, h1, h2⟩ := h c cs
    exact ⟨v, w2, h1, stepsIn_wide.2 h2⟩
  · exact h
  · exact h.elim

mutual
/-- A plain abstract value's value. -/
def plainVal : AV → Value
  | .i k n => .int k n
  | .b x => .bool x
  | .s x => .string x
  | .agg l => .agg (plainVals l).toArray
  | _ => undef
def plainVals : List AV → List Value
  | [] => []
  | x :: l => plainVal x :: plainVals l
end
mutual
theorem plain_R {v : AV} {x : Value} (hp : v.plain = true) (h : R st e v x) : x = plainVal v := by
  match v with
  | .i k n => exact h
  | .b x => exact h
  | .s x => exact h
  | .agg l =>
    obtain ⟨vs, rfl, hl⟩ := h
    simp only [plainVal]
    congr 2
    exact plainAgg_RL (by simpa [AV.plain] using hp) hl
  | .nilp | .nilf | .nili | .nils | .box .. | .row _ | .view .. | .arrp _ | .elt .. | .fn .. | .yv | .tup _ | .opt .. | .ifc .. | .any => simp [AV.plain] at hp
theorem plainAgg_RL {l : List AV} {vs : List Value} (hp : AV.plain.plainAgg l = true) (h : RL st e l vs) : vs = plainVals l := by
  match l with
  | [] => exact h
  | .i .. :: l =>
    obtain ⟨v, vs', rfl, h1, h2⟩ := h
    simp only [plainVals]
    rw [plain_R (by rfl) h1, plainAgg_RL (by simpa [AV.plain.plainAgg] using hp) h2]
  | .b _ :: l =>
    obtain ⟨v, vs', rfl, h1, h2⟩ := h
    simp only [plainVals]
    rw [plain_R (by rfl) h1, plainAgg_RL (by simpa [AV.plain.plainAgg] using hp) h2]
  | .s _ :: l =>
    obtain ⟨v, vs', rfl, h1, h2⟩ := h
    simp only [plainVals]
    rw [plain_R (by rfl) h1, plainAgg_RL (by simpa [AV.plain.plainAgg] using hp) h2]
  | .nilp :: _ | .nilf :: _ | .nili :: _ | .nils :: _ | .box .. :: _ | .row _ :: _ | .view .. :: _ | .arrp _ :: _ | .elt .. :: _ | .fn .. :: _ | .yv :: _ | .agg _ :: _ | .tup _ :: _ | .opt .. :: _ | .ifc .. :: _ | .any :: _ => simp [AV.plain.plainAgg] at hp
end
theorem plain_RL {l : List AV} {vs : List Value} (hp : plainL l = true) (h : RL st e l vs) : vs = plainVals l := by
  induction l generalizing vs with
  | nil => exact h
  | cons x l ih =>
    obtain ⟨v, vs', rfl, h1, h2⟩ := h
    simp only [plainL, Bool.and_eq_true] at hp
    simp only [plainVals]
    rw [plain_R hp.1 h1, ih hp.2 h2]

/-- Whoever is yielded to keeps its word. -/
def YOK (P : Program) (c : Ctx) (Y : List (List AV) → List AV → Option (Prop × Bool)) : Prop :=
  ∀ (ys : List (List AV)) (args : List AV) (M : Nat → Prop) (w : World) (p : Prop) (b : Bool), c.J ys M w → Frame c w → plainL args = true → Y ys args = some (p, b) → p →
    ∃ fn tmps assign body, (Instr.yield c.l (plainVals args).toArray).run P w = .ok (.round c.l fn tmps assign body) w ∧
      RoundIn (W none) 0 P c.l fn tmps assign body w fun en w' => en = .returned (.bool b) ∧ ∃ M', c.J (ys ++ [args]) M' w' ∧
        w'.os = w.os ∧ w'.tape = w.tape ∧ w'.output = w.output ∧ w.heap.size ≤ w'.heap.size ∧ (∀ k, k < w.heap.size → ¬ M k → w'.heap[k]? = w.heap[k]?) ∧ (∀ k, M' k → M k ∨ w.heap.size ≤ k)

theorem HeapOK.yielded {M' : Nat → Prop} {w' : World} {args : List AV} (hh : HeapOK c e st w) (hJ : c.J (st.ys ++ [args]) M' w') (ho : w'.os = w.os) (ht : w'.tape = w.tape) (hu : w'.output = w.output) (hs : w.heap.size ≤ w'.heap.size)
    (hb : ∀ k, k < w.heap.size → ¬ e.M k → w'.heap[k]? = w.heap[k]?) (hM : ∀ k, M' k → e.M k ∨ w.heap.size ≤ k) :
    HeapOK c ⟨e.β, e.ρ, M', e.D, e.l⟩ ⟨st.tmps, st.boxes, st.rows, st.ys ++ [args], st.pin⟩ w' ∧ Pres st e ⟨st.tmps, st.boxes, st.rows, st.ys ++ [args], st.pin⟩ ⟨e.β, e.ρ, M', e.D, e.l⟩ [] := by
  have hp : Pres st e ⟨st.tmps, st.boxes, st.rows, st.ys ++ [args], st.pin⟩ ⟨e.β, e.ρ, M', e.D, e.l⟩ [] := pres_of rfl rfl (fun i b hi => ⟨⟨b, hi⟩, rfl⟩) (fun i q _ hq => ⟨⟨q, hq, rfl, Nat.le_refl _⟩, rfl⟩)
  have hmine : ∀ g, g < w.heap.size → Mine c e.M g → Mine c M' g := fun g hg h => ⟨h.1, fun hm => by rcases hM g hm with h1 | h1; exact h.2 h1; omega⟩
  have hfix : ∀ g, Fixed c e.M g → Fixed c M' g := fun g h => ⟨h.1, h.2.1, fun hm => by rcases hM g hm with h1 | h1; exact h.2.2 h1; have := hh.base_le; have := h.1; omega⟩
  refine ⟨⟨⟨ho.trans hh.frame.os, ht.trans hh.frame.tape, hu.trans hh.frame.output, Nat.le_trans hh.frame.size hs, fun k h1 h2 => ?_⟩, fun i b hi => ?_, fun i q hq => ?_, hh.injB, hh.injR, hh.apart, hJ, fun D hD => ?_, fun D hD => ?_, fun k hk => ?_, hh.yl, hh.nd, RL_keep hp hh.pin⟩, hp⟩
  · rw [hb k (by have := hh.base_le; omega) (fun hm => by rcases hh.mwr k hm with h3 | h3; exact h2 h3; omega)]
    exact hh.frame.block k h1 h2
  · have hlt := hh.box_lt hi
    obtain ⟨⟨vs, h1, h2, h3⟩, h4⟩ := hh.box i b hi
    refine ⟨⟨vs, ?_, RL_keep hp h2, h3⟩, ?_⟩
    · show w'.heap[e.β i]? = _
      rw [hb _ hlt (by cases ho : b.own <;> rw [ho] at h4 <;> first | exact h4.2.2 | exact h4.2)]; exact h1
    · cases ho : b.own <;> rw [ho] at h4
      · exact hfix _ h4
      · exact hmine _ hlt h4
  · obtain ⟨h3, h4⟩ := hh.row i q hq
    refine ⟨h3, ?_⟩
    cases hro : q.own
    · rw [hro] at h4
      obtain ⟨a', cap, h5, h6, h7, h8⟩ := h4
      exact ⟨a', cap, h5, h6, h7, fun j v hj => by obtain ⟨b, h9, h10, h11⟩ := h8 j v hj; exact ⟨b, h9, hfix _ h10, h11⟩⟩
    · rw [hro] at h4
      refine ⟨h4.1.same (fun g hg hlt => hb g hlt (h4.2 g hg).2), fun g hg => hmine g (h4.1.lt hg).1 (h4.2 g hg)⟩
  · rw [hb D (lt_of_heap (hh.defd D hD)) (hh.defm D hD).1]; exact hh.defd D hD
  · exact ⟨fun hm => by rcases hM D hm with h1 | h1; exact (hh.defm D hD).1 h1; have := lt_of_heap (hh.defd D hD); omega, (hh.defm D hD).2⟩
  · rcases hM k hk with h1 | h1
    · exact hh.mwr k h1
    · right; have := hh.base_le; omega

theorem builtin_inv {A : Operand → AV} {fr : Nat} {av : AV} {pre : List Prop} {l : List AV} {b : Builtin} {args : List Operand} {ts : List TypeId} (h : trBuiltin TT A (look st) fr b args ts = some ⟨pre, av, .yield l⟩) : False := by
  unfold trBuiltin trLen trClear trAppend at h
  repeat' (split at h)
  all_goals cases h

theorem callC_inv {fb fr g : Nat} {av : AV} {pre : List Prop} {l args : List AV} (h : callC C (resolve st) fb fr g args = some ⟨pre, av, .yield l⟩) : False := by
  unfold callC at h
  repeat' (split at h)
  all_goals cases h

theorem yield_inv {A : Operand → AV} {fb fr : Nat} {av : AV} {pre : List Prop} {l : List AV} {op : Op} (htr : tr TT C Y A (look st) (resolve st) st.ys fb fr op = some ⟨pre, av, .yield l⟩) :
    ∃ cl f b p, op = .call cl ∧ cl.callee = .value f ∧ A f = .yv ∧ plainL (listOf A cl.args.toList) = true ∧ Y st.ys (listOf A cl.args.toList) = some (p, b) ∧ pre = [p] ∧ av = .b b ∧ l = listOf A cl.args.toList := by
  cases op with
  | call cl =>
    simp only [tr] at htr
    split at htr
    · rename_i f hcl
      split at htr
      · exact (callC_inv htr).elim
      · rename_i hf
        split at htr
        · rename_i hpl
          split at htr
          · rename_i p b hY
            cases htr
            exact ⟨cl, f, b, p, rfl, hcl, hf, hpl, hY, rfl, rfl, rfl⟩
          · cases htr
        · cases htr
      · cases htr
    · exact (builtin_inv htr).elim
    · cases htr
  | pick c x y =>
    simp only [tr, trPick] at htr
    repeat' (split at htr)
    all_goals cases htr
  | slice T x lo hi mx =>
    simp only [tr, trSlice, trSliceR] at htr
    repeat' (split at htr)
    all_goals cases htr
  | binOp o T x y T' =>
    simp only [tr] at htr
    repeat' (split at htr)
    all_goals cases htr
  | _ =>
    simp only [tr, reduceCtorEq] at htr
    all_goals (repeat' (split at htr))
    all_goals cases htr

theorem tr_sound {A : Operand → AV} {fb fr : Nat} {av : AV} {pre : List Prop} {eff : Eff} (hTT : TTOK P TT) (hC : ∀ f con, C f = some con → ConOK P G f con) (hgood : ∀ w, Frame c w → G c.g0 w) (hY : YOK P c Y)
    (hh : HeapOK c e st w) (hA : ∀ y ∈ o.op.operands.toList, R st e (A y) (a.eval y)) (htr : tr TT C Y A (look st) (resolve st) st.ys fb fr o.op = some ⟨pre, av, eff⟩) (hp : ∀ p ∈ pre, p)
    (hfb : ∀ j, fb ≤ j → j < fb + eff.newsB → getK none st.boxes j = none) (hfr : ∀ j, fr ≤ j → j < fr + eff.news → getK none st.rows j = none) :
    ∀ (K : Act → World → Prop) (Q : Exit → Act → World → Prop), (∀ v w' e', HeapOK c e' (eff.apply fb fr st) w' → Pres st e (eff.apply fb fr st) e' eff.kills → R (eff.apply fb fr st) e' av v → K (a.put o.dst v) w') → o.wpIn (W c.r) 0 P a w K Q := by
  intro K Q h
  have hdef : ∀ cl, o.op ≠ .defer cl := fun cl hcl => by rw [hcl] at htr; simp [tr] at htr
  by_cases hny : ∀ l, eff ≠ .yield l
  · exact wp_in hdef (tr_goes hny hTT hC hgood hh hA htr hp hfb hfr K Q h)
  · obtain ⟨l, rfl⟩ : ∃ l, eff = .yield l := by
      false_or_by_contra
      rename_i hn
      exact hny fun l hl => hn ⟨l, hl⟩
    have hop : ∃ cl f b p, o.op = .call cl ∧ cl.callee = .value f ∧ A f = .yv ∧ plainL (listOf A cl.args.toList) = true ∧ Y st.ys (listOf A cl.args.toList) = some (p, b) ∧ pre = [p] ∧ av = .b b ∧ l = listOf A cl.args.toList := yield_inv htr
    obtain ⟨cl, f, b, p, hcl, hf, hA', hpl, hYs, rfl, rfl, rfl⟩ := hop
    have hpp : p := hp p (by simp)
    obtain ⟨callee, args, ts⟩ := cl
    simp only at hf
    subst hf
    rw [hcl] at hA
    simp only [Op.operands, Call.operands] at hA
    have hfR := hA f (by simp)
    rw [hA'] at hfR
    have hfR' : a.eval f = .func (.yield c.l) #[] #[] := by rw [← hh.yl]; exact hfR
    have hargs : RL st e (listOf A args.toList) (args.toList.map a.eval) := by rw [listOf_eq]; exact RL_map fun y hy => hA y (by simp; exact .inr (by simpa using hy))
    have hvals := plain_RL hpl hargs
    obtain ⟨fn, tmps, assign, body, hy1, hy2⟩ := hY st.ys (listOf A args.toList) e.M w p b hh.out hh.frame hpl hYs hpp
    refine ⟨fun _ _ => trivial, ?_⟩
    rw [Oper.semAt_plain (W c.r) a.eval o hdef]
    have hargs' : args.map a.eval = (plainVals (listOf A args.toList)).toArray := Array.ext' (by simp [hvals])
    have hrun : (execOp a.eval o).run P w = .ok (.round c.l fn tmps assign body) w := by
      simp only [execOp, hcl, Go.resolve, hfR', Deferred.ofValue, invoke]
      simp [hargs', hy1]
    rw [hrun]
    refine ⟨(fun h' => by cases h'), ?_⟩
    have hr2 : RoundIn (W c.r) 0 P c.l fn tmps assign body w _ := hy2
    refine hr2.mono ?_
    rintro en w' ⟨rfl, M', h1, h2, h3, h4, h5, h6, h7⟩
    obtain ⟨h8, h9⟩ := hh.yielded h1 h2 h3 h4 h5 h6 h7
    exact h (.bool b) w' _ h8 h9 rfl
end
end Go.X

namespace Go.X
open Go.RowKit

mutual
theorem R_tmps {ts ts' : List AV} {bs : List (Option Box)} {rs : List (Option Row)} {ys ys' : List (List AV)} {pn pn' : List AV} {e : Env} (v : AV) (x : Value) (h : R ⟨ts, bs, rs, ys, pn⟩ e v x) : R ⟨ts', bs, rs, ys', pn'⟩ e v x := by
  match v with
  | .i .. | .b .. | .s .. | .nilp | .nilf | .nili | .nils | .box .. | .row _ | .view .. | .arrp _ | .elt .. | .yv | .any => exact h
  | .fn f l => obtain ⟨vs, h1, h2⟩ := h; exact ⟨vs, h1, RL_tmps l vs h2⟩
  | .agg l => obtain ⟨vs, h1, h2⟩ := h; exact ⟨vs, h1, RL_tmps l vs h2⟩
  | .tup l => obtain ⟨vs, h1, h2⟩ := h; exact ⟨vs, h1, RL_tmps l vs h2⟩
  | .opt g v => exact ⟨fun hg => R_tmps v x (h.1 hg), h.2⟩
  | .ifc T v => obtain ⟨y, h1, h2⟩ := h; exact ⟨y, h1, R_tmps v y h2⟩
theorem RL_tmps {ts ts' : List AV} {bs : List (Option Box)} {rs : List (Option Row)} {ys ys' : List (List AV)} {pn pn' : List AV} {e : Env} (l : List AV) (vs : List Value) (h : RL ⟨ts, bs, rs, ys, pn⟩ e l vs) : RL ⟨ts', bs, rs, ys', pn'⟩ e l vs := by
  match l with
  | [] => exact h
  | x :: l => obtain ⟨v, vs', h1, h2, h3⟩ := h; exact ⟨v, vs', h1, R_tmps x v h2, RL_tmps l vs' h3⟩
end

theorem HeapOK_tmps {c : Ctx} {e : Env} {ts ts' : List AV} {bs : List (Option Box)} {rs : List (Option Row)} {ys : List (List AV)} {pn : List AV} {w : World} (h : HeapOK c e ⟨ts, bs, rs, ys, pn⟩ w) : HeapOK c e ⟨ts', bs, rs, ys, pn⟩ w :=
  ⟨h.frame, fun id bx hb => by obtain ⟨⟨vs, h1, h2, h3⟩, h4⟩ := h.box id bx hb; exact ⟨⟨vs, h1, RL_tmps _ _ h2, h3⟩, h4⟩, h.row, h.injB, h.injR, h.apart, h.out, h.defd, h.defm, h.mwr, h.yl, h.nd, RL_tmps _ _ h.pin⟩

theorem listK_eq {α : Type} (l : List α) (k : List α → Prop) : listK l k = k l := by
  induction l generalizing k with
  | nil => rfl
  | cons x l ih => simp [listK, ih]
theorem lenK_eq {α : Type} (l : List α) (n : Nat) (k : Nat → Prop) : lenK l n k = k (n + l.length) := by
  induction l generalizing n with
  | nil => rfl
  | cons x l ih => simp only [lenK, ih, List.length_cons]; congr 1; omega
theorem cellK_eq (v : AV) (k : AV → Prop) : cellK v k = k v := by
  cases v <;> simp [cellK, listK_eq]
theorem cellL_eq (l : List AV) (k : List AV → Prop) : cellL l k = k l := by
  induction l generalizing k with
  | nil => rfl
  | cons x l ih => simp [cellL, cellK_eq, ih]
theorem avK_eq (v : AV) (k : AV → Prop) : avK v k = k v := by
  cases v <;> simp [avK, cellL_eq]
theorem stK_eq (st : St) (k : St → Prop) : stK st k = k st := by
  cases st; simp [stK, listK_eq]
theorem avL_eq (l : List AV) (k : List AV → Prop) : avL l k = k l := by
  induction l generalizing k with
  | nil => rfl
  | cons x l ih => simp [avL, avK_eq, ih]
theorem boolK_eq (b : Bool) (k : Bool → Prop) : boolK b k = k b := by cases b <;> rfl
theorem boxK_eq (b : Option Box) (k : Option Box → Prop) : boxK b k = k b := by
  cases b with
  | none => rfl
  | some b => obtain ⟨T, cells, own⟩ := b; simp [boxK, avL_eq, boolK_eq]
theorem rowK_eq (b : Option Row) (k : Option Row → Prop) : rowK b k = k b := by
  cases b with
  | none => rfl
  | some b => obtain ⟨T, e, l, own⟩ := b; simp [rowK, boolK_eq]
theorem boxL_eq (l : List (Option Box)) (k : List (Option Box) → Prop) : boxL l k = k l := by
  induction l generalizing k with
  | nil => rfl
  | cons x l ih => simp [boxL, boxK_eq, ih]
theorem rowL_eq (l : List (Option Row)) (k : List (Option Row) → Prop) : rowL l k = k l := by
  induction l generalizing k with
  | nil => rfl
  | cons x l ih => simp [rowL, rowK_eq, ih]
theorem stF_eq (st : St) (k : St → Prop) : stF st k = k st := by
  cases st; simp [stF, listK_eq, avL_eq, boxL_eq, rowL_eq]
theorem effK_eq (eff : Eff) (k : Eff → Prop) : effK eff k = k eff := by
  cases eff <;> simp [effK, avL_eq]
theorem conjP_iff (ps : List Prop) (K : Prop) : conjP ps K ↔ (∀ p ∈ ps, p) ∧ K := by
  induction ps with
  | nil => simp [conjP]
  | cons p ps ih =>
    show (p ∧ conjP ps K) ↔ _
    rw [ih]
    simp only [List.mem_cons, forall_eq_or_imp, and_assoc]

theorem atomOf_R {st : St} {e : Env} (v : Value) : R st e (atomOf v) v := by
  unfold atomOf
  split <;> first | rfl | trivial
theorem mapK_atom_R {st : St} {e : Env} (l : List Value) : RL st e (mapK atomOf l) l := by
  induction l with
  | nil => rfl
  | cons x l ih => exact ⟨x, l, rfl, atomOf_R x, ih⟩
theorem ofVal_R {st : St} {e : Env} (v : Value) : R st e (ofVal v) v := by
  unfold ofVal
  split
  · exact ⟨_, by simp, mapK_atom_R _⟩
  · split
    · rename_i cs h; exact ⟨[], by congr 1; exact Array.ext' (by simpa using h), rfl⟩
    · trivial
  · exact atomOf_R _

section
variable {P : Program} {G : Nat → World → Prop} {TT : TypeId → Option TD} {C : Nat → Option Con} {Y : List (List AV) → List AV → Option (Prop × Bool)} {c : Ctx} {st : St} {e : Env} {a : Act} {w : World} {o : Oper} {ops : Array Oper}

theorem opnd_R (h : TmpsOK c st e a) (x : Operand) : R st e (opnd st.tmps x) (a.eval x) := by
  cases x with
  | tmp t =>
    have := RL_get h.1 t
    simp only [opnd, Act.eval]
    simpa [Array.getD_eq_getD_getElem?] using this
  | const v => exact ofVal_R v
  | func f => exact ⟨[], rfl, rfl⟩
  | global g => trivial

theorem put_ok {st' : St} {e' : Env} {ts : List AV} {av : AV} {v : Value} {d : Tmp} (h : RL st' e' ts a.tmps.toList) (hd : DfOK c e'.D a.defers) (hv : R st' e' av v) : TmpsOK c ⟨ts.set d av, st'.boxes, st'.rows, st'.ys, st'.pin⟩ e' (a.put (some d) v) := by
  refine ⟨?_, hd⟩
  have := RL_set h d hv
  simp only [Act.put, Array.toList_setIfInBounds]
  cases st'
  exact RL_tmps _ _ this

theorem apply_tmps {fb fr : Nat} {eff : Eff} : (eff.apply fb fr st).tmps = mapK (sweep eff.kills) st.tmps := by
  cases eff with
  | call bs rs k sr => cases k <;> simp [Eff.apply, Eff.kills, mapK_sweep_nil]
  | _ => simp [Eff.apply, Eff.kills, mapK_sweep_nil]

theorem guardOf_spec {j : Nat} {want g : Bool} (h : TmpsOK c st e a) (ho : o.guard = some (j, want)) (hg : guardOf ops st.tmps j want = some g) : Region.wanted o (yielded ops a.tmps) = g := by
  unfold guardOf at hg
  split at hg
  · rename_i oj hoj
    split at hg
    · rename_i t ht
      have hR := RL_get h.1 t
      have hoj' : ops[j]? = some oj := by simpa using hoj
      have hy : yielded ops a.tmps j = match a.tmps[t]? with | some (.bool b) => some b | _ => none := by
        simp only [yielded, hoj', Option.bind_some, ht]
        rfl
      simp only [Region.wanted, ho]
      have hget : a.tmps.toList[t]? = a.tmps[t]? := by simp
      rw [hget] at hR
      split at hg
      · rename_i x hx
        rw [hx] at hR
        cases hq : a.tmps[t]? with
        | none => rw [hq] at hR; simp only [Option.getD_none, R] at hR; cases hR
        | some v =>
          rw [hq] at hR hy
          simp only [Option.getD_some, R] at hR
          subst hR
          rw [hy]
          cases want <;> cases x <;> simp at hg <;> subst hg <;> rfl
      · rename_i g1 x hx
        rw [hx] at hR
        cases g1
        · have h2 := hR.2 rfl
          have h3 : yielded ops a.tmps j = none := by
            rw [hy]
            cases hq : a.tmps[t]? with
            | none => rfl
            | some v => rw [hq] at h2; simp only [Option.getD_some] at h2; subst h2; rfl
          rw [h3]
          cases want <;> simp at hg <;> subst hg <;> rfl
        · have h2 := hR.1 rfl
          cases hq : a.tmps[t]? with
          | none => rw [hq] at h2; simp only [Option.getD_none, R] at h2; cases h2
          | some v =>
            rw [hq] at h2 hy
            simp only [Option.getD_some, R] at h2
            subst h2
            rw [hy]
            cases want <;> cases x <;> simp at hg <;> subst hg <;> rfl
      · cases hg
    · cases hg
  · cases hg

theorem optOf_spec {ts : List AV} {g : Bool} {l : List Operand} (h : ∀ p ∈ optOf ts g l, p) : ∀ x ∈ l, ∀ p ∈ (unopt g (opnd ts x)).1, p := by
  induction l with
  | nil => intro x hx; cases hx
  | cons y l ih =>
    simp only [optOf, appendList_eq, List.mem_append] at h
    intro x hx
    rcases List.mem_cons.1 hx with rfl | hx
    · exact fun p hp => h p (.inl hp)
    · exact ih (fun p hp => h p (.inr hp)) x hx

theorem unopt_R {v : AV} {x : Value} {g : Bool} (h : R st e v x) (hg : g = true) (hp : ∀ p ∈ (unopt g v).1, p) : R st e (unopt g v).2 x := by
  unfold unopt at *
  split at hp
  · rename_i g' v'
    have : g' = true := hp _ (List.mem_singleton.2 rfl) hg
    exact h.1 this
  · rename_i hne
    simpa using h

theorem optOfN_spec {op : Op} {ts : List AV} {g : Bool} {l : List Operand} (h : ∀ p ∈ optOfN op ts g l, p) : ∀ x ∈ l, ∀ p ∈ (unoptN (needs op x) g (opnd ts x)).1, p := by
  induction l with
  | nil => intro x hx; cases hx
  | cons y l ih =>
    simp only [optOfN, appendList_eq, List.mem_append] at h
    intro x hx
    rcases List.mem_cons.1 hx with rfl | hx
    · exact fun p hp => h p (.inl hp)
    · exact ih (fun p hp => h p (.inr hp)) x hx
theorem unoptN_R {n : Bool} {v : AV} {x : Value} {g : Bool} (h : R st e v x) (hg : g = true) (hp : ∀ p ∈ (unoptN n g v).1, p) : R st e (unoptN n g v).2 x := by
  cases n with
  | false => exact h
  | true => exact unopt_R h hg hp

theorem impl_spec {g : Bool} {ps : List Prop} (h : ∀ p ∈ impl g ps, p) (hg : g = true) : ∀ p ∈ ps, p := by
  induction ps with
  | nil => intro p hp; cases hp
  | cons q ps ih =>
    simp only [impl, List.mem_cons, forall_eq_or_imp] at h
    intro p hp
    rcases List.mem_cons.1 hp with rfl | hp
    · exact h.1 hg
    · exact ih h.2 p hp

theorem isNone_eq {eff : Eff} (h : isNone eff = true) : eff = .none := by cases eff <;> simp [isNone] at h; rfl

/-- One operation, whatever numbers its new blocks take. -/
theorem vcOp_sound {add : Bool} {fb fr : Nat} {K : St → Prop} (hTT : TTOK P TT) (hC : ∀ f con, C f = some con → ConOK P G f con) (hgood : ∀ w, Frame c w → G c.g0 w) (hY : YOK P c Y)
    (hh : HeapOK c e st w) (ht : TmpsOK c st e a) (hfb : ∀ j, fb ≤ j → (add = true → j < fb + 1) → getK none st.boxes j = none) (hfr : ∀ j, fr ≤ j → (add = true → j < fr + 4) → getK none st.rows j = none) (hv : vcOp TT C Y add fb fr ops o st K)
    {K' : Act → World → Prop} {Q : Exit → Act → World → Prop} (hK : ∀ st' e' a' w', HeapOK c e' st' w' → TmpsOK c st' e' a' → K st' → K' a' w') :
    if Region.wanted o (yielded ops a.tmps) then o.wpIn (W c.r) 0 P a w K' Q else K' (a.put o.dst undef) w := by
  obtain ⟨ts, bs, rs, ys, pn⟩ := st
  unfold vcOp at hv
  simp only at hv
  have step : ∀ {A : Operand → AV} {pre : List Prop} {av : AV} {eff : Eff} (av' : AV), (∀ y ∈ o.op.operands.toList, R ⟨ts, bs, rs, ys, pn⟩ e (A y) (a.eval y)) → tr TT C Y A (look ⟨ts, bs, rs, ys, pn⟩) (resolve ⟨ts, bs, rs, ys, pn⟩) ys fb fr o.op = some ⟨pre, av, eff⟩ → (∀ p ∈ pre, p) →
      (add = true → eff.adds = true) → (∀ st' e' v, R st' e' av v → R st' e' av' v) → (match o.dst with
          | some d => (match eff.apply fb fr ⟨ts, bs, rs, ys, pn⟩ with | ⟨ts', bs', rs', ys', pn'⟩ => setK ts' d av' fun ts' => K ⟨ts', bs', rs', ys', pn'⟩)
          | none => K (eff.apply fb fr ⟨ts, bs, rs, ys, pn⟩)) → o.wpIn (W c.r) 0 P a w K' Q := by
    intro A pre av eff av' hA htr hp hadd hav hv
    refine tr_sound hTT hC hgood hY hh hA htr hp (fun j h1 h2 => hfb j h1 (fun ha => ?_)) (fun j h1 h2 => hfr j h1 (fun ha => ?_)) K' Q (fun v w' e' h1 h2 h3 => ?_)
    · have := hadd ha
      cases eff with
      | call bs' rs' k sr =>
        cases bs' with
        | nil => simp only [Eff.newsB, List.length_nil] at h2; omega
        | cons _ _ => simp [Eff.adds] at this
      | _ => simp only [Eff.newsB] at h2; omega
    · have := hadd ha
      cases eff with
      | call bs' rs' k sr =>
        cases bs' <;> cases k <;> cases sr <;> simp [Eff.adds] at this
        simp only [Eff.news] at h2; omega
      | _ => simp only [Eff.news] at h2; omega
    · have hts : RL (eff.apply fb fr ⟨ts, bs, rs, ys, pn⟩) e' (eff.apply fb fr ⟨ts, bs, rs, ys, pn⟩).tmps a.tmps.toList := by
        rw [apply_tmps]; exact RL_mono h2.keep ht.1
      have hdf : DfOK c e'.D a.defers := by rw [h2.D]; exact ht.2
      generalize eff.apply fb fr ⟨ts, bs, rs, ys, pn⟩ = st' at *
      obtain ⟨ts', bs', rs', ys', pn'⟩ := st'
      cases hd : o.dst with
      | none =>
        rw [hd] at hv
        exact hK _ e' _ w' h1 ⟨hts, hdf⟩ hv
      | some d =>
        rw [hd] at hv
        simp only [setK_eq] at hv
        exact hK _ e' _ w' (HeapOK_tmps h1) (put_ok hts hdf (hav _ _ _ h3)) hv
  split at hv
  · rename_i hg
    have hw : Region.wanted o (yielded ops a.tmps) = true := by simp [Region.wanted, hg]
    rw [if_pos hw]
    split at hv
    · rename_i pre av eff htr
      split at hv
      · rename_i hadd
        rw [conjP_iff, avK_eq, effK_eq, stK_eq] at hv
        exact step av (fun y _ => opnd_R ht y) htr hv.1 (fun ha => by subst ha; simpa using hadd) (fun _ _ _ h => h) hv.2
      · exact hv.elim
    · exact hv.elim
  · rename_i j want hg
    split at hv
    · rename_i g hgo
      have hw := guardOf_spec (o := o) ht hg hgo
      split at hv
      · have hgf : g = false := by
          cases hgv : g with
          | false => rfl
          | true => exact (hv.1 hgv).elim
        have hv2 := hv.2
        rw [hw, hgf, if_neg (by simp)]
        cases hd : o.dst with
        | none => rw [hd] at hv2; exact hK _ e _ w hh ht hv2
        | some d =>
          rw [hd] at hv2
          simp only [setK_eq] at hv2
          exact hK _ e _ w (HeapOK_tmps hh) (put_ok (st' := ⟨ts, bs, rs, ys, pn⟩) (av := .opt false .any) ht.1 ht.2 ⟨fun h => (by cases h), fun _ => rfl⟩) hv2
      split at hv
      · rename_i pre av eff htr
        split at hv
        · rename_i hne
          obtain rfl := isNone_eq hne
          rw [conjP_iff, conjP_iff, avK_eq] at hv
          obtain ⟨hp1, hp2, hv⟩ := hv
          rw [hw]
          cases hgv : g with
          | true =>
            rw [if_pos rfl]
            refine step (.opt g av) (fun y hy => unoptN_R (g := g) (opnd_R ht y) hgv (optOfN_spec hp1 y hy)) htr (impl_spec hp2 hgv) (fun _ => rfl) (fun _ _ _ h => ⟨fun _ => h, fun h => (by rw [hgv] at h; cases h)⟩) ?_
            exact hv
          | false =>
            rw [if_neg (by simp)]
            cases hd : o.dst with
            | none => rw [hd] at hv; exact hK _ e _ w hh ht hv
            | some d =>
              rw [hd] at hv
              simp only [setK_eq] at hv
              exact hK _ e _ w (HeapOK_tmps hh) (put_ok (st' := ⟨ts, bs, rs, ys, pn⟩) (av := .opt g av) ht.1 ht.2 ⟨fun h => (by rw [hgv] at h; cases h), fun _ => rfl⟩) hv
        · split at hv
          · exact hv.elim
          · rw [hw]
            cases hgv : g with
            | true =>
              rw [if_pos rfl]
              have hv1 := hv.1 hgv
              rw [conjP_iff, conjP_iff, avK_eq, effK_eq, stK_eq] at hv1
              subst hgv
              exact step (.opt true av) (fun y hy => unoptN_R (g := true) (opnd_R ht y) rfl (optOfN_spec hv1.1 y hy)) htr hv1.2.1 (fun h => by cases h) (fun _ _ _ h => ⟨fun _ => h, fun h => (by cases h)⟩) hv1.2.2
            | false =>
              rw [if_neg (by simp)]
              have hv2 := hv.2 hgv
              cases hd : o.dst with
              | none => rw [hd] at hv2; exact hK _ e _ w hh ht hv2
              | some d =>
                rw [hd] at hv2
                simp only [setK_eq] at hv2
                exact hK _ e _ w (HeapOK_tmps hh) (put_ok (st' := ⟨ts, bs, rs, ys, pn⟩) (av := .opt false .any) ht.1 ht.2 ⟨fun h => (by cases h), fun _ => rfl⟩) hv2
      · exact hv.elim
    · exact hv.elim

/-- From every act and world that a state tells, the operations go where K says. -/
def TrOps (P : Program) (c : Ctx) (ops : Array Oper) (l : List Oper) (st : St) (K : St → Prop) : Prop :=
  ∀ (e : Env) (a : Act) (w : World) (Q : Exit → Act → World → Prop), HeapOK c e st w → TmpsOK c st e a → (∀ st e a w, HeapOK c e st w → TmpsOK c st e a → K st → Q .normal a w) → wpListIn (W c.r) 0 P ops Q l a w

theorem vcOps_sound {Q : Exit → Act → World → Prop} {K : St → Prop} (hTT : TTOK P TT) (hC : ∀ f con, C f = some con → ConOK P G f con) (hgood : ∀ w, Frame c w → G c.g0 w) (hY : YOK P c Y)
    (hK : ∀ st e a w, HeapOK c e st w → TmpsOK c st e a → K st → Q .normal a w) : ∀ (l : List Oper) (st : St) (e : Env) (a : Act) (w : World), HeapOK c e st w → TmpsOK c st e a → vcOps TT C Y (TrOps P c) ops l st K → wpListIn (W c.r) 0 P ops Q l a w := by
  intro l
  induction l with
  | nil => intro st e a w hh ht hv; exact hK st e a w hh ht hv
  | cons o l ih =>
    intro st e a w hh ht hv
    obtain ⟨ts, bs, rs, ys, pn⟩ := st
    change (match isInl C ts o with | true => Lf (TrOps P c ops (o :: l) ⟨ts, bs, rs, ys, pn⟩ K) | false => lenK bs 0 fun nb => lenK rs 0 fun nr => vcOp TT C Y false nb nr ops o ⟨ts, bs, rs, ys, pn⟩ fun st' => vcOps TT C Y (TrOps P c) ops l st' K) at hv
    split at hv
    · exact hv.un e a w Q hh ht hK
    simp only [lenK_eq, Nat.zero_add] at hv
    have := vcOp_sound (K' := wpListIn (W c.r) 0 P ops Q l) (Q := Q) hTT hC hgood hY hh ht (fun j h1 _ => getK_length none bs _ h1) (fun j h1 _ => getK_length none rs _ h1) hv (fun st' e' a' w' h1 h2 h3 => ih st' e' a' w' h1 h2 h3)
    unfold wpListIn
    split
    · rename_i hw; rw [if_pos hw] at this; exact this
    · rename_i hw; rw [if_neg hw] at this; exact ⟨fun _ _ => trivial, this⟩
end
end Go.X

namespace Go.X
open Go.RowKit

theorem getK_overL {α : Type} (l : List (Option α)) (fr : Nat) (rs : List α) (i : Nat) : getK none (overL l fr rs) i = if fr ≤ i ∧ i < fr + rs.length then rs[i - fr]? else getK none l i := by
  induction rs generalizing l fr with
  | nil => simp only [overL, List.length_nil]; rw [if_neg (by omega)]
  | cons r rs ih =>
    simp only [overL, ih, List.length_cons, getK_putAt]
    by_cases h1 : fr + 1 ≤ i ∧ i < fr + 1 + rs.length
    · rw [if_pos h1, if_pos (by omega)]
      have : i - fr = (i - (fr + 1)) + 1 := by omega
      rw [this]; rfl
    · rw [if_neg h1]
      by_cases h2 : i = fr
      · rw [if_pos h2, if_pos (by omega), h2]; simp
      · rw [if_neg h2, if_neg (by omega)]

theorem mapK_congr {α β : Type} {f g : α → β} {l : List α} (h : ∀ x ∈ l, f x = g x) : mapK f l = mapK g l := by
  rw [mapK_eq, mapK_eq]; exact List.map_congr_left h

section
variable {TT : TypeId → Option TD} {C : Nat → Option Con} {Y : List (List AV) → List AV → Option (Prop × Bool)} {A A' : Operand → AV} {lk lk' : AV → Option SV} {rs rs' : AV → Option RV} {ys : List (List AV)} {fb fr : Nat}

theorem elems_congr {k : EK} {l : List (Nat × Operand)} (h : ∀ p ∈ l, A' p.2 = A p.2) (n : Nat) : elems k A' n l = elems k A n l := by
  induction l generalizing n with
  | nil => rfl
  | cons p l ih =>
    obtain ⟨i, x⟩ := p
    simp only [elems, h (i, x) (by simp), ih (fun q hq => h q (by simp [hq]))]

theorem allRes_mono {l : List AV} (h : ∀ v ∈ l, ∀ rv, rs v = some rv → rs' v = some rv) {m : List RV} (hm : allRes rs l = some m) : allRes rs' l = some m := by
  induction l generalizing m with
  | nil => simpa [allRes] using hm
  | cons x l ih =>
    simp only [allRes] at hm ⊢
    split at hm
    · rename_i r hr
      rw [h x (by simp) r hr]
      split at hm
      · rename_i m' hm'
        rw [ih (fun v hv => h v (by simp [hv])) hm']
        exact hm
      · cases hm
    · cases hm

theorem listOf_congr {l : List Operand} (h : ∀ x ∈ l, A' x = A x) : listOf A' l = listOf A l := by
  rw [listOf_eq, listOf_eq]; exact List.map_congr_left h

theorem bound_congr {lo : Option Operand} (h : ∀ y, lo = some y → A' y = A y) : bound A' lo = bound A lo := by
  cases lo with
  | none => rfl
  | some y => simp only [bound]; rw [h y rfl]

theorem tr_local {op : Op} {res : Res} (hA : ∀ x ∈ op.operands.toList, A' x = A x) (hlk : ∀ x ∈ op.operands.toList, ∀ sv, lk (A x) = some sv → lk' (A x) = some sv) (hrs : ∀ x ∈ op.operands.toList, ∀ rv, rs (A x) = some rv → rs' (A x) = some rv)
    (hcap : ∀ x ∈ op.operands.toList, ∀ g caps, A x = .fn g caps → ∀ v ∈ caps, ∀ rv, rs v = some rv → rs' v = some rv) (h : tr TT C Y A lk rs ys fb fr op = some res) : tr TT C Y A' lk' rs' ys fb fr op = some res := by
  cases op with
  | move x => simp only [tr] at h ⊢; rw [hA x (by simp [Op.operands])]; exact h
  | assign x => simp only [tr] at h ⊢; rw [hA x (by simp [Op.operands])]; exact h
  | pick c x y =>
    have hc := hA c (by simp [Op.operands])
    have hx := hA x (by simp [Op.operands])
    have hy := hA y (by simp [Op.operands])
    simp only [tr] at h ⊢
    unfold trPick at h ⊢
    simp only [hc]
    split at h
    · simp only [hy]; exact h
    · simp only [hx]; exact h
    · cases h
  | alloc T => exact h
  | box T x => simp only [tr] at h ⊢; rw [hA x (by simp [Op.operands])]; exact h
  | build T parts =>
    have hp : mapK (fun p : Nat × Operand => (p.1, A' p.2)) parts.toList = mapK (fun p => (p.1, A p.2)) parts.toList := mapK_congr fun p hp => by rw [hA p.2 (by simp [Op.operands]; exact ⟨p.1, by simpa using hp⟩)]
    simp only [tr] at h ⊢; rw [hp]; exact h
  | buildSlice T len parts =>
    have hp : ∀ k, elems k A' 0 parts.toList = elems k A 0 parts.toList := fun k => elems_congr (fun p hp => hA p.2 (by simp [Op.operands]; exact ⟨p.1, by simpa using hp⟩)) 0
    simp only [tr] at h ⊢
    simp only [hp]; exact h
  | load T x =>
    have h1 := hlk x (by simp [Op.operands])
    simp only [tr] at h ⊢
    rw [hA x (by simp [Op.operands])]
    cases hr : lk (A x) with
    | none => rw [hr] at h; simp at h
    | some rv => rw [hr] at h; rw [h1 rv hr]; exact h
  | store T x y =>
    have h1 := hlk x (by simp [Op.operands])
    simp only [tr] at h ⊢
    rw [hA x (by simp [Op.operands]), hA y (by simp [Op.operands])]
    cases hr : lk (A x) with
    | none => rw [hr] at h; simp at h
    | some rv => rw [hr] at h; rw [h1 rv hr]; exact h
  | nilCheck x => simp only [tr] at h ⊢; rw [hA x (by simp [Op.operands])]; exact h
  | binOp o T x y T' => simp only [tr] at h ⊢; rw [hA x (by simp [Op.operands]), hA y (by simp [Op.operands])]; exact h
  | unOp o T x => simp only [tr] at h ⊢; rw [hA x (by simp [Op.operands])]; exact h
  | convert s d x =>
    have h1 := hlk x (by simp [Op.operands])
    simp only [tr] at h ⊢
    rw [hA x (by simp [Op.operands])]
    split at h
    · exact h
    · exact h
    · rename_i ds dd hs hd hn1 hn2
      try simp only [hs, hd]
      split at h
      · rename_i E hk1 hk2
        try simp only [hk1, hk2]
        split at h
        · rename_i de hde
          try simp only [hde]
          split at h
          · rename_i hk3
            try simp only [hk3]
            cases hr : lk (A x) with
            | none => rw [hr] at h; simp at h
            | some rv => rw [hr] at h; rw [h1 rv hr]; exact h
          · cases h
        · cases h
      · cases h
    · cases h
  | makeFunc fn first caps =>
    have hc : listOf A' caps.toList = listOf A caps.toList := by
      rw [listOf_eq, listOf_eq]; exact List.map_congr_left fun x hx => hA x (by simp [Op.operands]; exact .inr (by simpa using hx))
    simp only [tr] at h ⊢; rw [hc]; exact h
  | slice T x lo hi mx =>
    have h1 := hlk x (by simp [Op.operands])
    have hx := hA x (by simp [Op.operands])
    have hlo : bound A' lo = bound A lo := bound_congr fun y hy => hA y (by simp [Op.operands, hy])
    have hhi : bound A' hi = bound A hi := bound_congr fun y hy => hA y (by simp [Op.operands, hy])
    have hmx : ∀ y, mx = some y → A' y = A y := fun y hy => hA y (by simp [Op.operands, hy])
    simp only [tr] at h ⊢
    rw [hx]
    split at h
    · rename_i s hs
      try simp only [hs]
      split at h
      · unfold trSlice at h ⊢
        rw [hx, hlo, hhi]; exact h
      · cases h
    · rename_i hns
      unfold trSliceR at h ⊢
      have hmx' : bound A' mx = bound A mx := bound_congr hmx
      rw [hx, hlo, hhi, hmx']
      cases hr : lk (A x) with
      | none => rw [hr] at h; (repeat' (split at h)) <;> simp_all
      | some sv =>
        rw [hr] at h
        rw [h1 sv hr]
        exact h
  | fieldAddr T x f => simp only [tr] at h ⊢; rw [hA x (by simp [Op.operands])]; exact h
  | field T x f => simp only [tr] at h ⊢; rw [hA x (by simp [Op.operands])]; exact h
  | indexAddr T x i =>
    have h1 := hlk x (by simp [Op.operands])
    simp only [tr] at h ⊢
    rw [hA x (by simp [Op.operands]), hA i (by simp [Op.operands])]
    cases hr : lk (A x) with
    | none => rw [hr] at h; simp at h
    | some rv => rw [hr] at h; rw [h1 rv hr]; exact h
  | index T x i => simp only [tr] at h ⊢; rw [hA x (by simp [Op.operands]), hA i (by simp [Op.operands])]; exact h
  | extract t i => simp only [tr] at h ⊢; rw [hA t (by simp [Op.operands])]; exact h
  | call cl =>
    obtain ⟨callee, args, ts⟩ := cl
    cases callee with
    | invoke r m => simp [tr] at h
    | value f =>
      simp only [Op.operands, Call.operands] at hA hrs hcap
      have hargs : listOf A' args.toList = listOf A args.toList := listOf_congr fun x hx => hA x (by simp; exact .inr (by simpa using hx))
      simp only [tr] at h ⊢
      rw [hA f (by simp), hargs]
      cases hf : A f with
      | fn g caps =>
        simp only [hf] at h ⊢
        have hc := hcap f (by simp) g caps hf
        unfold callC at h ⊢
        split at h
        · split at h
          · rename_i rvs hrvs
            rw [allRes_mono (fun v hv => ?_) hrvs]
            · exact h
            · rw [appendList_eq, listOf_eq] at hv
              rcases List.mem_append.1 hv with hv | hv
              · obtain ⟨x, hx, rfl⟩ := List.mem_map.1 hv
                exact hrs x (by simp; exact .inr (by simpa using hx))
              · exact hc v hv
          · cases h
        · cases h
      | yv => rw [hf] at h; exact h
      | _ => rw [hf] at h; simp at h
    | builtin b =>
      have hA' : ∀ x ∈ args.toList, A' x = A x := fun x hx => hA x (by simpa [Op.operands, Call.operands] using hx)
      have hlk' : ∀ x ∈ args.toList, ∀ rv, lk (A x) = some rv → lk' (A x) = some rv := fun x hx => hlk x (by simpa [Op.operands, Call.operands] using hx)
      simp only [tr] at h ⊢
      generalize args.toList = l at h hA' hlk' ⊢
      generalize ts.toList = tl at h ⊢
      unfold trBuiltin at h ⊢
      split at h
      · rename_i x t
        have h1 := hlk' x (by simp)
        split at h
        · unfold trLen at h ⊢
          rw [hA' x (by simp)]
          cases hr : lk (A x) with
          | none => rw [hr] at h; simp at h
          | some rv => rw [hr] at h; rw [h1 rv hr]; exact h
        · unfold trClear at h ⊢
          rw [hA' x (by simp)]
          cases hr : lk (A x) with
          | none => rw [hr] at h; simp at h
          | some rv => rw [hr] at h; rw [h1 rv hr]; exact h
        · cases h
      · rename_i x y
        have hx := hA' x (by simp)
        have hy := hA' y (by simp)
        split at h
        · simp only [hx, hy]; exact h
        · simp only [hx, hy]; exact h
        · split at h
          · split at h
            · rename_i ht
              rw [if_pos ht]
              unfold trAppend at h ⊢
              rw [hx, hy]
              have h1 := hlk' x (by simp)
              have h2 := hlk' y (by simp)
              cases hr : lk (A y) with
              | none => rw [hr] at h; simp at h
              | some sv =>
                rw [hr] at h
                rw [h2 sv hr]
                split at h
                · split at h
                  · rename_i hrl hk
                    try simp only [hrl, hk]
                    split at h
                    · rename_i hde
                      try simp only [hde]
                      cases hq : lk (A x) with
                      | none => rw [hq] at h; simp at h
                      | some rv2 => rw [hq] at h; rw [h1 rv2 hq]; exact h
                    · cases h
                  · cases h
                · cases h
            · cases h
          · cases h
        · cases h
      · cases h
  | _ => simp [tr] at h
end
end Go.X

namespace Go.X
open Go.RowKit

/-- What holds behind a piece of code. -/
def QK (c : Ctx) (K : Exit → St → Prop) : Exit → Act → World → Prop
  | .panic _, _, _ => False
  | .outgrown, _, _ => False
  | ex, a, w => ∃ st e, HeapOK c e st w ∧ TmpsOK c st e a ∧ K ex st

/-- From every act and world that a state tells, the code goes where K says. -/
def Tr (P : Program) (c : Ctx) (code : Code) (st : St) (K : Exit → St → Prop) : Prop :=
  ∀ e a w, HeapOK c e st w → TmpsOK c st e a → code.wpIn (W c.r) 0 P (QK c K) a w

section
variable {P : Program} {G : Nat → World → Prop} {TT : TypeId → Option TD} {C : Nat → Option Con} {Y : List (List AV) → List AV → Option (Prop × Bool)} {c : Ctx}

abbrev vc (P : Program) (TT : TypeId → Option TD) (C : Nat → Option Con) (Y : List (List AV) → List AV → Option (Prop × Bool)) (c : Ctx) (code : Code) (st : St) (K : Exit → St → Prop) : Prop := vcG TT C Y (TrOps P c) (fun code st K => Lf (Tr P c code st K)) code st K

theorem QK_mono {K K' : Exit → St → Prop} (h : ∀ ex st, K ex st → K' ex st) {ex : Exit} {a : Act} {w : World} (hq : QK c K ex a w) : QK c K' ex a w := by
  cases ex <;> first | exact hq | (obtain ⟨st, e, h1, h2, h3⟩ := hq; exact ⟨st, e, h1, h2, h _ _ h3⟩)

/-- Regions that draw: see XDraw. -/
def DrawOK (P : Program) (TT : TypeId → Option TD) (C : Nat → Option Con) (Y : List (List AV) → List AV → Option (Prop × Bool)) (c : Ctx) : Prop :=
  ∀ (id : Nat) (ops : Array Oper) (st : St) (K : St → Prop) (e : Env) (a : Act) (w : World) (Q : Exit → Act → World → Prop), drawOk C ops = true → vcDraw TT C Y ops st K → HeapOK c e st w → TmpsOK c st e a →
    (∀ st e a w, HeapOK c e st w → TmpsOK c st e a → K st → Q .normal a w) → (Code.region id ops true).wpIn (W c.r) 0 P Q a w

theorem vc_sound (hTT : TTOK P TT) (hC : ∀ f con, C f = some con → ConOK P G f con) (hgood : ∀ w, Frame c w → G c.g0 w) (hY : YOK P c Y) (hdraw : DrawOK P TT C Y c) :
    ∀ (code : Code) (st : St) (K : Exit → St → Prop), drawsOk C code = true → vc P TT C Y c code st K → Tr P c code st K := by
  intro code
  induction code with
  | skip => intro st K _ h e a w hh ht; exact wpIn_skip ⟨st, e, hh, ht, h⟩
  | region id ops draw =>
    intro st K hd h e a w hh ht
    cases draw with
    | false =>
      obtain ⟨l⟩ := ops
      refine wpIn_region_lit ?_
      exact vcOps_sound hTT hC hgood hY (fun st e a w h1 h2 h3 => ⟨st, e, h1, h2, h3⟩) _ st e a w hh ht h
    | true =>
      refine hdraw id ops st _ e a w _ (by simpa [drawsOk] using hd) h hh ht (fun st e a w h1 h2 h3 => ⟨st, e, h1, h2, h3⟩)
  | seq x y ihx ihy =>
    intro st K hd h e a w hh ht
    simp only [drawsOk, Bool.and_eq_true] at hd
    refine wpIn_seq (wpIn_mono (ihx st _ hd.1 h e a w hh ht) ?_)
    intro ex a' w' hq
    cases ex with
    | normal => obtain ⟨st', e', h1, h2, h3⟩ := hq; exact ihy st' K hd.2 h3 e' a' w' h1 h2
    | _ => exact hq
  | cond cc x1 y ihx ihy =>
    intro st K hd h e a w hh ht
    simp only [drawsOk, Bool.and_eq_true] at hd
    change (match opnd st.tmps cc with | .b x => (x = true → vc P TT C Y c x1 st K) ∧ (x = false → vc P TT C Y c y st K) | _ => False) at h
    split at h
    · rename_i b hb
      have hR := opnd_R ht cc
      rw [hb] at hR
      refine wpIn_cond_split hR (fun hb' => ihx st K hd.1 (h.1 hb') e a w hh ht) (fun hb' => ihy st K hd.2 (h.2 hb') e a w hh ht)
    · exact h.elim
  | block id x ih =>
    intro st K hd h e a w hh ht
    refine wpIn_block (wpIn_mono (ih st _ (by simpa [drawsOk] using hd) h e a w hh ht) ?_)
    intro ex a' w' hq
    cases ex with
    | exit id' =>
      obtain ⟨st', e', h1, h2, h3⟩ := hq
      simp only [exitBlock] at h3
      simp only [Exit.inBlock]
      split
      · rename_i hi; rw [if_pos hi] at h3; exact ⟨st', e', h1, h2, h3⟩
      · rename_i hi; rw [if_neg hi] at h3; exact ⟨st', e', h1, h2, h3⟩
    | _ => exact hq
  | exit id => intro st K _ h e a w hh ht; exact wpIn_exit ⟨st, e, hh, ht, h⟩
  | ret => intro st K _ h e a w hh ht; exact wpIn_ret ⟨st, e, hh, ht, h⟩
  | loop x _ => intro st K _ h; exact h.un
  | rangeFunc f ps x y _ _ => intro st K _ h; exact h.un
  | scope x _ => intro st K _ h; exact h.un
  | label l => intro st K _ h; exact h.un
  | goto l => intro st K _ h; exact h.un
  | refuse s => intro st K _ h; exact h.un

/- ## Weakening -/
def leT : List AV → List AV → Prop
  | [], [] => True
  | _ :: l, .any :: m => leT l m
  | x :: l, y :: m => x = y ∧ leT l m
  | _, _ => False
def leO {α : Type} : List (Option α) → List (Option α) → Prop
  | _, [] => True
  | _ :: l, none :: m => leO l m
  | x :: l, some y :: m => x = some y ∧ leO l m
  | [], none :: m => leO ([] : List (Option α)) m
  | [], some _ :: _ => False
mutual
def sc (bs : List (Option Box)) (rs : List (Option Row)) : AV → Bool
  | .box id _ => (match getK none bs id with | some _ => true | none => false)
  | .row id => (match getK none rs id with | some _ => true | none => false)
  | .view id _ _ _ => (match getK none rs id with | some _ => true | none => false)
  | .arrp id => (match getK none rs id with | some _ => true | none => false)
  | .elt id _ _ => (match getK none rs id with | some _ => true | none => false)
  | .fn _ l => scL bs rs l
  | .agg l => scL bs rs l
  | .tup l => scL bs rs l
  | .opt _ v => sc bs rs v
  | .ifc _ v => sc bs rs v
  | _ => true
def scL (bs : List (Option Box)) (rs : List (Option Row)) : List AV → Bool
  | [] => true
  | x :: l => sc bs rs x && scL bs rs l
end
def scB (bs : List (Option Box)) (rs : List (Option Row)) : List (Option Box) → Bool
  | [] => true
  | none :: l => scB bs rs l
  | some b :: l => scL bs rs b.cells && scB bs rs l
/-- What the second state tells the first one tells, too. -/
structure Le (st st' : St) : Prop where
  tmps : leT st.tmps st'.tmps
  ys : st.ys = st'.ys
  pin : leT st.pin st'.pin
  boxes : leO st.boxes st'.boxes
  rows : leO st.rows st'.rows
  sc : (scL st'.boxes st'.rows st'.tmps && (scL st'.boxes st'.rows st'.pin && scB st'.boxes st'.rows st'.boxes)) = true

theorem leO_get {α : Type} {l m : List (Option α)} (h : leO l m) : ∀ i x, getK none m i = some x → getK none l i = some x := by
  induction m generalizing l with
  | nil => intro i x hx; simp [getK] at hx
  | cons y m ih =>
    intro i x hx
    cases l with
    | nil =>
      cases y with
      | none => cases i with
        | zero => simp [getK] at hx
        | succ i => have := ih (l := []) (by simpa [leO] using h) i x (by simpa [getK] using hx); simp [getK] at this
      | some z => simp [leO] at h
    | cons z l =>
      cases y with
      | none => cases i with
        | zero => simp [getK] at hx
        | succ i => simpa [getK] using ih (by simpa [leO] using h) i x (by simpa [getK] using hx)
      | some y =>
        simp only [leO] at h
        cases i with
        | zero => simp only [getK] at hx ⊢; rw [h.1]; exact hx
        | succ i => simpa [getK] using ih h.2 i x (by simpa [getK] using hx)

mutual
theorem sc_R {st st' : St} {e : Env} (hr : ∀ i x, getK none st'.rows i = some x → getK none st.rows i = some x) (v : AV) (x : Value) (hs : sc st'.boxes st'.rows v = true) (h : R st e v x) : R st' e v x := by
  match v with
  | .i .. | .b .. | .s .. | .nilp | .nilf | .nili | .nils | .yv | .any => exact h
  | .view id lo hi ex =>
    obtain ⟨r, h1, h2⟩ := h
    simp only [sc] at hs
    split at hs
    · rename_i b hb
      have := hr id b hb
      rw [h1] at this; cases this
      exact ⟨r, hb, h2⟩
    · cases hs
  | .arrp id =>
    obtain ⟨r, h1, h2⟩ := h
    simp only [sc] at hs
    split at hs
    · rename_i b hb
      have := hr id b hb
      rw [h1] at this; cases this
      exact ⟨r, hb, h2⟩
    · cases hs
  | .box id off =>
    obtain ⟨_, h2⟩ := h
    simp only [sc] at hs
    split at hs
    · rename_i b hb; exact ⟨⟨b, hb⟩, h2⟩
    · cases hs
  | .row id =>
    obtain ⟨_, h2⟩ := h
    simp only [sc] at hs
    split at hs
    · rename_i b hb; exact ⟨⟨b, hb⟩, h2⟩
    · cases hs
  | .elt id ix sub =>
    obtain ⟨r, h1, h2⟩ := h
    simp only [sc] at hs
    split at hs
    · rename_i b hb
      have := hr id b hb
      rw [h1] at this; cases this
      exact ⟨r, hb, h2⟩
    · cases hs
  | .fn f l => obtain ⟨vs, h1, h2⟩ := h; exact ⟨vs, h1, sc_RL hr l vs (by simpa [sc] using hs) h2⟩
  | .agg l => obtain ⟨vs, h1, h2⟩ := h; exact ⟨vs, h1, sc_RL hr l vs (by simpa [sc] using hs) h2⟩
  | .tup l => obtain ⟨vs, h1, h2⟩ := h; exact ⟨vs, h1, sc_RL hr l vs (by simpa [sc] using hs) h2⟩
  | .opt g v => exact ⟨fun hg => sc_R hr v x (by simpa [sc] using hs) (h.1 hg), h.2⟩
  | .ifc T v => obtain ⟨y, h1, h2⟩ := h; exact ⟨y, h1, sc_R hr v y (by simpa [sc] using hs) h2⟩
theorem sc_RL {st st' : St} {e : Env} (hr : ∀ i x, getK none st'.rows i = some x → getK none st.rows i = some x) (l : List AV) (vs : List Value) (hs : scL st'.boxes st'.rows l = true) (h : RL st e l vs) : RL st' e l vs := by
  match l with
  | [] => exact h
  | x :: l =>
    obtain ⟨v, vs', h1, h2, h3⟩ := h
    simp only [scL, Bool.and_eq_true] at hs
    exact ⟨v, vs', h1, sc_R hr x v hs.1 h2, sc_RL hr l vs' hs.2 h3⟩
end

theorem scB_get {bs : List (Option Box)} {rs : List (Option Row)} {l : List (Option Box)} (h : scB bs rs l = true) : ∀ i b, getK none l i = some b → scL bs rs b.cells = true := by
  induction l with
  | nil => intro i b hb; simp [getK] at hb
  | cons x l ih =>
    intro i b hb
    cases x with
    | none => cases i with
      | zero => simp [getK] at hb
      | succ i => exact ih (by simpa [scB] using h) i b (by simpa [getK] using hb)
    | some y =>
      simp only [scB, Bool.and_eq_true] at h
      cases i with
      | zero => simp [getK] at hb; subst hb; exact h.1
      | succ i => exact ih h.2 i b (by simpa [getK] using hb)

theorem le_sound {st st' : St} {e : Env} {w : World} {a : Act} (hle : Le st st') (hh : HeapOK c e st w) (ht : TmpsOK c st e a) : HeapOK c e st' w ∧ TmpsOK c st' e a := by
  have hb := leO_get hle.boxes
  have hr := leO_get hle.rows
  have hs := hle.sc
  simp only [Bool.and_eq_true] at hs
  have hBB : ∀ i g, blkB e st' i = some g → blkB e st i = some g := by
    intro i g h
    simp only [blkB] at h ⊢
    cases hi : getK none st'.boxes i with
    | none => rw [hi] at h; cases h
    | some b => rw [hi] at h; rw [hb i b hi]; exact h
  have hRR : ∀ i g, blkR e st' i = some g → blkR e st i = some g := by
    intro i g h
    simp only [blkR] at h ⊢
    cases hi : getK none st'.rows i with
    | none => rw [hi] at h; cases h
    | some b => rw [hi] at h; rw [hr i b hi]; exact h
  have key : ∀ (l m : List AV) (vs : List Value), leT l m → RL st e l vs → scL st'.boxes st'.rows m = true → RL st' e m vs := by
    intro l
    induction l with
    | nil => intro m vs h1 h2 h3; cases m with
      | nil => exact h2
      | cons y m => simp [leT] at h1
    | cons x l ih =>
      intro m vs h1 h2 h3
      obtain ⟨v, vs', rfl, hx, hl⟩ := h2
      cases m with
      | nil => simp [leT] at h1
      | cons y m =>
        simp only [scL, Bool.and_eq_true] at h3
        by_cases hy : y = .any
        · subst hy
          exact ⟨v, vs', rfl, trivial, ih m vs' (by simpa [leT] using h1) hl h3.2⟩
        · have h1' : x = y ∧ leT l m := by cases y <;> first | exact h1 | exact absurd rfl hy
          obtain ⟨rfl, h1''⟩ := h1'
          exact ⟨v, vs', rfl, sc_R hr x v h3.1 hx, ih m vs' h1'' hl h3.2⟩
  refine ⟨⟨hh.frame, fun id bx h => ?_, fun id r h => hh.row id r (hr id r h), fun i j g h1 h2 => hh.injB i j g (hBB i g h1) (hBB j g h2), fun i j g h1 h2 => hh.injR i j g (hRR i g h1) (hRR j g h2), fun i j g h1 h2 => hh.apart i j g (hBB i g h1) (hRR j g h2), by rw [← hle.ys]; exact hh.out, hh.defd, hh.defm, hh.mwr, hh.yl, hh.nd, key _ _ _ hle.pin hh.pin hs.2.1⟩, key _ _ _ hle.tmps ht.1 hs.1, ht.2⟩
  obtain ⟨⟨vs, h1, h2, h3⟩, h4⟩ := hh.box id bx (hb id bx h)
  exact ⟨⟨vs, h1, sc_RL hr _ _ (scB_get hs.2.2 id bx h) h2, h3⟩, h4⟩

theorem Tr_le {code : Code} {st st' : St} {K : Exit → St → Prop} (hle : Le st st') (h : Tr P c code st' K) : Tr P c code st K :=
  fun e a w hh ht => let ⟨h1, h2⟩ := le_sound hle hh ht; h e a w h1 h2

/- ## Loops -/
theorem exists_min {p : Nat → Prop} (h : ∃ n, p n) : ∃ n, p n ∧ ∀ m, p m → n ≤ m := by
  obtain ⟨n, hn⟩ := h
  induction n using Nat.strongRecOn with
  | _ n ih =>
    by_cases hm : ∃ m, m < n ∧ p m
    · obtain ⟨m, h1, h2⟩ := hm; exact ih m h1 h2
    · exact ⟨n, hn, fun m h2 => by rcases Nat.lt_or_ge m n with h3 | h3; exact absurd ⟨m, h3, h2⟩ hm; exact h3⟩

theorem Tr_loop {α : Type} (S : α → St) (ok : α → Prop) (μ : α → Nat) {body : Code} {st : St} {K : Exit → St → Prop} (x0 : α) (h0 : ok x0) (hle : Le st (S x0))
    (hround : ∀ x, ok x → Tr P c body (S x) (exitThen (fun st' => ∃ x', ok x' ∧ μ x' < μ x ∧ Le st' (S x')) K)) : Tr P c (.loop body) st K := by
  refine Tr_le hle ?_
  intro e a w hh ht
  let Sat : Act → World → Nat → Prop := fun a w n => ∃ x e, μ x = n ∧ ok x ∧ HeapOK c e (S x) w ∧ TmpsOK c (S x) e a
  classical
  let m : Act → World → Nat := fun a w => if h : ∃ n, Sat a w n then Classical.choose (exists_min h) else 0
  have hmin : ∀ a w (h : ∃ n, Sat a w n), Sat a w (m a w) ∧ ∀ n, Sat a w n → m a w ≤ n := fun a w h => by
    have : m a w = Classical.choose (exists_min h) := dif_pos h
    rw [this]; exact Classical.choose_spec (exists_min h)
  refine wpIn_loop (fun a w => ∃ n, Sat a w n) m ⟨_, x0, e, rfl, h0, hh, ht⟩ ?_
  intro a1 w1 hI
  obtain ⟨x, e1, hx, hok, hh1, ht1⟩ := (hmin a1 w1 hI).1
  refine wpIn_mono (hround x hok e1 a1 w1 hh1 ht1) ?_
  intro ex a2 w2 hq
  cases ex with
  | normal =>
    obtain ⟨st2, e2, h1, h2, x', h3, h4, h5⟩ := hq
    obtain ⟨h6, h7⟩ := le_sound h5 h1 h2
    have hI2 : ∃ n, Sat a2 w2 n := ⟨_, x', e2, rfl, h3, h6, h7⟩
    refine ⟨hI2, ?_⟩
    have := (hmin a2 w2 hI2).2 (μ x') ⟨x', e2, rfl, h3, h6, h7⟩
    omega
  | _ => exact hq

def dsts : List Oper → List Nat → List Nat
  | [], acc => acc
  | o :: l, acc => match o.dst with
    | some d => d :: dsts l acc
    | none => dsts l acc
def writes : Code → List Nat → List Nat
  | .region _ ops _, acc => dsts ops.toList acc
  | .seq a b, acc => writes a (writes b acc)
  | .cond _ a b, acc => writes a (writes b acc)
  | .block _ a, acc => writes a acc
  | .loop a, acc => writes a acc
  | .scope a, acc => writes a acc
  | .rangeFunc _ ps a b, acc => appendList ps.toList (writes a (writes b acc))
  | _, acc => acc
def memN : List Nat → Nat → Bool
  | [], _ => false
  | x :: l, n => match Nat.beq x n with
    | true => true
    | false => memN l n
def forget (ns : List Nat) : List AV → Nat → List AV
  | [], _ => []
  | x :: l, i => (match memN ns i with | true => .any | false => x) :: forget ns l (i + 1)
def setAll {α : Type} (d : α) : List α → List (Nat × α) → List α
  | l, [] => l
  | l, (n, x) :: r => setAll d (putAt d l n x) r
/-- A loop's head: what the loop writes is forgotten, and then some slots, rows and boxes hold what is told. -/
def headOf (body : Code) (st : St) (ts : List (Nat × AV)) (bs : List (Nat × Option Box)) (rs : List (Nat × Option Row)) : St :=
  ⟨setAll .any (forget (writes body []) st.tmps 0) ts, setAll none st.boxes bs, setAll none st.rows rs, st.ys, st.pin⟩
end
end Go.X

namespace Go.X
open Go.RowKit

/- ## Masks -/
theorem masks_length (l : List Oper) : ∀ acc : List Nat, (masks acc l).length = acc.length + l.length := by
  induction l with
  | nil => intro acc; rfl
  | cons o l ih => intro acc; simp only [masks, ih]; simp; omega
theorem masks_old (l : List Oper) : ∀ (acc : List Nat) (i : Nat), i < acc.length → (masks acc l)[i]? = acc[i]? := by
  induction l with
  | nil => intro acc i _; rfl
  | cons o l ih =>
    intro acc i hi
    simp only [masks]
    rw [ih _ i (by simp; omega), List.getElem?_append_left hi]
theorem maskOf_bit {acc : List Nat} {k : Nat} : ∀ (es : List Edge), (maskOf acc es).testBit k = true → ∃ e ∈ es, Region.binds .any e = true ∧ (k = e.on ∨ (acc.getD e.on 0).testBit k = true) := by
  intro es
  induction es with
  | nil => intro h; simp [maskOf] at h
  | cons e es ih =>
    intro h
    simp only [maskOf, Nat.testBit_or, Bool.or_eq_true] at h
    rcases h with h | h
    · split at h
      · rename_i hb
        simp only [Nat.testBit_or, Bool.or_eq_true, Nat.testBit_two_pow] at h
        rcases h with h | h
        · exact ⟨e, by simp, hb, .inl (of_decide_eq_true h).symm⟩
        · exact ⟨e, by simp, hb, .inr h⟩
      · simp at h
    · obtain ⟨e', h1, h2⟩ := ih h
      exact ⟨e', by simp [h1], h2⟩
theorem masks_bit (l : List Oper) : ∀ (acc : List Nat) (i k : Nat) (o : Oper), l[i]? = some o → ((masks acc l).getD (acc.length + i) 0).testBit k = true →
    ∃ e ∈ o.after.toList, Region.binds .any e = true ∧ (k = e.on ∨ (e.on < acc.length + i ∧ ((masks acc l).getD e.on 0).testBit k = true)) := by
  induction l with
  | nil => intro acc i k o h; simp at h
  | cons o l ih =>
    intro acc i k o' h hk
    cases i with
    | zero =>
      simp at h; subst h
      simp only [masks, Nat.add_zero, List.getD_eq_getElem?_getD] at hk
      rw [masks_old _ _ _ (by simp), List.getElem?_append_right (Nat.le_refl _)] at hk
      simp at hk
      obtain ⟨e, h1, h2, h3⟩ := maskOf_bit _ hk
      refine ⟨e, h1, h2, ?_⟩
      rcases h3 with h3 | h3
      · exact .inl h3
      · right
        have hlt : e.on < acc.length := by
          rcases Nat.lt_or_ge e.on acc.length with h4 | h4
          · exact h4
          · simp [List.getD_eq_getElem?_getD, List.getElem?_eq_none h4] at h3
        refine ⟨hlt, ?_⟩
        simp only [masks, List.getD_eq_getElem?_getD]
        rw [masks_old _ _ _ (by simp; omega), List.getElem?_append_left hlt]
        simpa [List.getD_eq_getElem?_getD] using h3
    | succ i =>
      have := ih (acc ++ [maskOf acc o.after.toList]) i k o' (by simpa using h) (by simpa [masks, Nat.add_assoc, Nat.add_comm 1 i] using hk)
      simpa [masks, Nat.add_assoc, Nat.add_comm 1 i] using this

section
variable {P : Program} {G : Nat → World → Prop} {TT : TypeId → Option TD} {C : Nat → Option Con} {Y : List (List AV) → List AV → Option (Prop × Bool)} {c : Ctx} {ops : Array Oper} {n nb nr : Nat}

/-- What an operation comes to: its value, and what it adds. -/
def Data (TT : TypeId → Option TD) (C : Nat → Option Con) (Y : List (List AV) → List AV → Option (Prop × Bool)) (ops : Array Oper) (nb nr j : Nat) (o : Oper) (st : St) (av : AV) (eff : Eff) : Prop :=
  match o.guard with
  | none => eff.adds = true ∧ ∃ pre, tr TT C Y (opnd st.tmps) (look st) (resolve st) st.ys (nb + j) (nr + 4 * j) o.op = some ⟨pre, av, eff⟩ ∧ ∀ p ∈ pre, p
  | some (i, want) => eff = .none ∧ ∃ g pre av0, av = .opt g av0 ∧ guardOf ops st.tmps i want = some g ∧ tr TT C Y (fun x => (unoptN (needs o.op x) g (opnd st.tmps x)).2) (look st) (resolve st) st.ys (nb + j) (nr + 4 * j) o.op = some ⟨pre, av0, .none⟩ ∧
      (∀ p ∈ optOfN o.op st.tmps g o.op.operands.toList, p) ∧ ∀ p ∈ impl g pre, p

def stepOf (nb nr j : Nat) (o : Oper) (st : St) (av : AV) (eff : Eff) : St :=
  match o.dst with
  | some d => ⟨(eff.apply (nb + j) (nr + 4 * j) st).tmps.set d av, (eff.apply (nb + j) (nr + 4 * j) st).boxes, (eff.apply (nb + j) (nr + 4 * j) st).rows, (eff.apply (nb + j) (nr + 4 * j) st).ys, (eff.apply (nb + j) (nr + 4 * j) st).pin⟩
  | none => eff.apply (nb + j) (nr + 4 * j) st

theorem vcOp_data {j : Nat} {o : Oper} {st : St} {K : St → Prop} : vcOp TT C Y true (nb + j) (nr + 4 * j) ops o st K ↔ ∃ av eff, Data TT C Y ops nb nr j o st av eff ∧ K (stepOf nb nr j o st av eff) := by
  obtain ⟨ts, bs, rs, ys, pn⟩ := st
  unfold vcOp Data stepOf
  cases hg : o.guard with
  | none =>
    simp only
    constructor
    · intro h
      split at h
      · rename_i pre av eff htr
        split at h
        · rename_i hadd
          rw [conjP_iff, avK_eq, effK_eq, stK_eq] at h
          refine ⟨av, eff, ⟨by simpa using hadd, pre, htr, h.1⟩, ?_⟩
          have h2 := h.2
          cases hd : o.dst with
          | none => rw [hd] at h2; exact h2
          | some d =>
            rw [hd] at h2
            generalize eff.apply (nb + j) (nr + 4 * j) ⟨ts, bs, rs, ys, pn⟩ = st' at h2 ⊢
            obtain ⟨ts', bs', rs', ys', pn'⟩ := st'
            simpa only [setK_eq] using h2
        · exact h.elim
      · exact h.elim
    · rintro ⟨av, eff, ⟨hadd, pre, htr, hp⟩, hK⟩
      rw [htr]
      simp only [Bool.not_true, Bool.false_or, hadd]
      rw [conjP_iff, avK_eq, effK_eq, stK_eq]
      refine ⟨hp, ?_⟩
      cases hd : o.dst with
      | none => rw [hd] at hK; exact hK
      | some d =>
        rw [hd] at hK
        generalize eff.apply (nb + j) (nr + 4 * j) ⟨ts, bs, rs, ys, pn⟩ = st' at hK ⊢
        obtain ⟨ts', bs', rs', ys', pn'⟩ := st'
        simpa only [setK_eq] using hK
  | some q =>
    obtain ⟨i, want⟩ := q
    simp only
    constructor
    · intro h
      split at h
      · rename_i g hgo
        split at h
        · rename_i pre av eff htr
          split at h
          · rename_i hne
            obtain rfl := isNone_eq hne
            rw [conjP_iff, conjP_iff, avK_eq] at h
            refine ⟨.opt g av, .none, ⟨rfl, g, pre, av, rfl, hgo, htr, h.1, h.2.1⟩, ?_⟩
            have h2 := h.2.2
            cases hd : o.dst with
            | none => rw [hd] at h2; exact h2
            | some d => rw [hd] at h2; simp only [setK_eq] at h2; exact h2
          · exact h.elim
        · exact h.elim
      · exact h.elim
    · rintro ⟨av, eff, ⟨rfl, g, pre, av0, rfl, hgo, htr, h1, h2⟩, hK⟩
      rw [hgo]
      simp only [htr]
      simp only [isNone]
      rw [conjP_iff, conjP_iff, avK_eq]
      refine ⟨h1, h2, ?_⟩
      cases hd : o.dst with
      | none => rw [hd] at hK; exact hK
      | some d => rw [hd] at hK; simp only [setK_eq]; exact hK

/- ## States that some operations have led to -/
def Eff.boxOf : Eff → Option Box
  | .box bx => some bx
  | _ => Option.none
def Eff.rowsOf : Eff → List Row
  | .call _ rs _ _ => rs
  | _ => []
structure Abs (st0 : St) (l : List Oper) (ds : Nat → AV × Eff) (S : Nat → Bool) (st : St) : Prop where
  ys : st.ys = st0.ys
  pin : st.pin = st0.pin
  len : st.tmps.length = st0.tmps.length
  hit : ∀ i t o, S i = true → l[i]? = some o → o.dst = some t → t < st0.tmps.length → getK .any st.tmps t = (ds i).1
  miss : ∀ t, (∀ i o, S i = true → l[i]? = some o → o.dst ≠ some t) → getK .any st.tmps t = getK .any st0.tmps t
  boxOld : ∀ id, id < st0.boxes.length → getK none st.boxes id = getK none st0.boxes id
  boxNew : ∀ i, getK none st.boxes (st0.boxes.length + i) = if S i = true then (ds i).2.boxOf else none
  rowOld : ∀ id, id < st0.rows.length → getK none st.rows id = getK none st0.rows id
  rowNew : ∀ i k, k < 4 → getK none st.rows (st0.rows.length + 4 * i + k) = if S i = true then (ds i).2.rowsOf[k]? else none

theorem apply_adds {fb fr : Nat} {st : St} {eff : Eff} (h : eff.adds = true) : (eff.apply fb fr st).tmps = st.tmps ∧
    (∀ id, getK none (eff.apply fb fr st).boxes id = if id = fb then eff.boxOf.or (getK none st.boxes id) else getK none st.boxes id) ∧
    (∀ id, getK none (eff.apply fb fr st).rows id = if fr ≤ id ∧ id < fr + eff.rowsOf.length then eff.rowsOf[id - fr]? else getK none st.rows id) ∧ eff.rowsOf.length ≤ 4 ∧ (eff.apply fb fr st).ys = st.ys ∧ (eff.apply fb fr st).pin = st.pin := by
  cases eff with
  | none =>
    refine ⟨rfl, fun id => by simp [Eff.apply, Eff.boxOf], fun id => ?_, Nat.zero_le _, rfl, rfl⟩
    rw [if_neg (by show ¬ (fr ≤ id ∧ id < fr + 0); omega)]; rfl
  | box bx =>
    refine ⟨rfl, fun id => by simp [Eff.apply, getK_putAt, Eff.boxOf], fun id => ?_, Nat.zero_le _, rfl, rfl⟩
    rw [if_neg (by show ¬ (fr ≤ id ∧ id < fr + 0); omega)]; rfl
  | call bs rs k sr =>
    cases bs with
    | cons _ _ => simp [Eff.adds] at h
    | nil =>
    cases k with
    | cons _ _ => simp [Eff.adds] at h
    | nil =>
    cases sr with
    | cons _ _ => simp [Eff.adds] at h
    | nil => exact ⟨rfl, fun id => by simp [Eff.apply, Eff.boxOf, overL], fun id => getK_overL _ _ _ _, of_decide_eq_true h, rfl, rfl⟩
  | _ => simp [Eff.adds] at h

theorem Abs.step {st0 st : St} {l : List Oper} {ds : Nat → AV × Eff} {S : Nat → Bool} {j : Nat} {o : Oper} (hA : Abs st0 l ds S st) (hSj : S j = false) (ho : l[j]? = some o)
    (hdist : ∀ i oi d, S i = true → i ≠ j → l[i]? = some oi → oi.dst = some d → o.dst ≠ some d) (hadds : (ds j).2.adds = true) :
    Abs st0 l ds (fun i => S i || i == j) (stepOf st0.boxes.length st0.rows.length j o st (ds j).1 (ds j).2) := by
  obtain ⟨h1, h2, h3, h4, h5, h6⟩ := apply_adds (fb := st0.boxes.length + j) (fr := st0.rows.length + 4 * j) (st := st) hadds
  have hts : (stepOf st0.boxes.length st0.rows.length j o st (ds j).1 (ds j).2).tmps = match o.dst with | some d => st.tmps.set d (ds j).1 | none => st.tmps := by
    unfold stepOf; cases o.dst <;> simp [h1]
  have hbs : (stepOf st0.boxes.length st0.rows.length j o st (ds j).1 (ds j).2).boxes = ((ds j).2.apply (st0.boxes.length + j) (st0.rows.length + 4 * j) st).boxes := by
    unfold stepOf; cases o.dst <;> rfl
  have hrs : (stepOf st0.boxes.length st0.rows.length j o st (ds j).1 (ds j).2).rows = ((ds j).2.apply (st0.boxes.length + j) (st0.rows.length + 4 * j) st).rows := by
    unfold stepOf; cases o.dst <;> rfl
  have hset : ∀ (d t : Nat), getK .any (st.tmps.set d (ds j).1) t = if t = d ∧ d < st.tmps.length then (ds j).1 else getK .any st.tmps t := by
    intro d t
    rw [getK_eq, getK_eq, List.getElem?_set]
    by_cases h : d = t
    · subst h
      by_cases h' : d < st.tmps.length
      · simp [h']
      · simp [h']
    · rw [if_neg h, if_neg (by omega)]
  refine ⟨?_, ?_, ?_, ?_, ?_, ?_, ?_, ?_, ?_⟩
  · rw [← hA.ys, ← h5]; unfold stepOf; cases o.dst <;> rfl
  · rw [← hA.pin, ← h6]; unfold stepOf; cases o.dst <;> rfl
  · rw [hts]; cases o.dst <;> simp [hA.len]
  · intro i t oi hS hoi hd ht
    rw [hts]
    simp only [Bool.or_eq_true, beq_iff_eq] at hS
    by_cases hij : i = j
    · subst hij
      rw [ho] at hoi; cases hoi
      rw [hd]; simp only [hset]
      rw [if_pos ⟨trivial, by rw [hA.len]; exact ht⟩]
    · have hS' : S i = true := by rcases hS with h | h; exact h; exact absurd h hij
      have hne := hdist i oi t hS' hij hoi hd
      have := hA.hit i t oi hS' hoi hd ht
      cases hod : o.dst with
      | none => exact this
      | some d =>
        simp only [hset]
        rw [if_neg (fun h => hne (by rw [hod, h.1]))]
        exact this
  · intro t hmiss
    rw [hts]
    have hm := hA.miss t (fun i oi hS hoi => hmiss i oi (by simp [hS]) hoi)
    cases hod : o.dst with
    | none => exact hm
    | some d =>
      simp only [hset]
      have := hmiss j o (by simp) ho
      rw [if_neg (fun h => this (by rw [hod, h.1]))]
      exact hm
  · intro id hid
    rw [hbs, h2, if_neg (by omega)]
    exact hA.boxOld id hid
  · intro i
    rw [hbs, h2]
    by_cases hij : i = j
    · subst hij
      rw [if_pos rfl, if_pos (by simp)]
      have := hA.boxNew i
      rw [if_neg (by simp [hSj])] at this
      rw [this]; simp
    · rw [if_neg (by omega)]
      have := hA.boxNew i
      rw [this]
      simp [hij]
  · intro id hid
    rw [hrs, h3, if_neg (by omega)]
    exact hA.rowOld id hid
  · intro i k hk
    rw [hrs, h3]
    have := hA.rowNew i k hk
    by_cases hij : i = j
    · subst hij
      rw [if_neg (by simp [hSj])] at this
      have hc : (S i || i == i) = true := by simp
      rw [if_pos hc]
      by_cases hin : k < (ds i).2.rowsOf.length
      · rw [if_pos (by omega)]; congr 1; omega
      · rw [if_neg (by omega), this, List.getElem?_eq_none (by omega)]
    · rw [if_neg (by omega), this]
      simp [hij]

theorem resolveF_agree {st st' : St} {e : Env} {w : World} (hh : HeapOK c e st' w) (hb : ∀ id b b', getK none st.boxes id = some b → getK none st'.boxes id = some b' → b = b') (hr : ∀ id b b', getK none st.rows id = some b → getK none st'.rows id = some b' → b = b') :
    ∀ n : Nat, (∀ v rv x, resolveF st.boxes st.rows n v = some rv → R st' e v x → resolveF st'.boxes st'.rows n v = some rv) ∧ (∀ l m vs, resolveFL st.boxes st.rows n l = some m → RL st' e l vs → resolveFL st'.boxes st'.rows n l = some m) := by
  intro n
  induction n with
  | zero => exact ⟨fun v r x h => by simp [resolveF] at h, fun l m vs h => by simp [resolveFL] at h⟩
  | succ n ih =>
    obtain ⟨ih1, ih2⟩ := ih
    constructor
    · intro v r x h hR
      cases v with
      | box id off =>
        simp only [resolveF] at h ⊢
        obtain ⟨⟨b', hb'⟩, _⟩ := hR
        split at h
        · rename_i T cells own hbb
          obtain rfl := hb id _ b' hbb hb'
          rw [hb']
          split at h
          · rename_i l hl
            obtain ⟨⟨vs, _, h2, _⟩, _⟩ := hh.box id _ hb'
            have := ih2 _ _ _ hl h2
            simp only [this]
            exact h
          · cases h
        · cases h
      | row id =>
        simp only [resolveF] at h ⊢
        obtain ⟨⟨b', hb'⟩, _⟩ := hR
        split at h
        · rename_i b hbb
          obtain rfl := hr id b b' hbb hb'
          rw [hb']; exact h
        · cases h
      | elt id ix sub =>
        simp only [resolveF] at h ⊢
        obtain ⟨b', hb', _⟩ := hR
        split at h
        · rename_i b hbb
          obtain rfl := hr id b b' hbb hb'
          rw [hb']; exact h
        · cases h
      | view id lo hi ex =>
        simp only [resolveF] at h ⊢
        obtain ⟨b', hb', _⟩ := hR
        split at h
        · rename_i b hbb
          obtain rfl := hr id b b' hbb hb'
          rw [hb']; exact h
        · cases h
      | arrp id =>
        simp only [resolveF] at h ⊢
        obtain ⟨b', hb', _⟩ := hR
        split at h
        · rename_i b hbb
          obtain rfl := hr id b b' hbb hb'
          rw [hb']; exact h
        · cases h
      | fn f l =>
        simp only [resolveF] at h ⊢
        obtain ⟨vs, _, hl⟩ := hR
        split at h
        · rename_i m hm; rw [ih2 _ _ _ hm hl]; exact h
        · cases h
      | agg l =>
        simp only [resolveF] at h ⊢
        obtain ⟨vs, _, hl⟩ := hR
        split at h
        · rename_i m hm; rw [ih2 _ _ _ hm hl]; exact h
        · cases h
      | tup l =>
        simp only [resolveF] at h ⊢
        obtain ⟨vs, _, hl⟩ := hR
        split at h
        · rename_i m hm; rw [ih2 _ _ _ hm hl]; exact h
        · cases h
      | _ => simpa only [resolveF] using h
    · intro l m vs h hR
      cases l with
      | nil => simpa only [resolveFL] using h
      | cons x l =>
        simp only [resolveFL] at h ⊢
        obtain ⟨v, vs', _, h1, h2⟩ := hR
        split at h
        · rename_i r hx
          rw [ih1 _ _ _ hx h1]
          split at h
          · rename_i rs hl
            simp only
            rw [ih2 _ _ _ hl h2]; exact h
          · cases h
        · cases h
theorem resolve_agree {st st' : St} {e : Env} {w : World} (hh : HeapOK c e st' w) (hb : ∀ id b b', getK none st.boxes id = some b → getK none st'.boxes id = some b' → b = b') (hr : ∀ id b b', getK none st.rows id = some b → getK none st'.rows id = some b' → b = b')
    (v : AV) (rv : RV) (x : Value) (h : resolve st v = some rv) (hR : R st' e v x) : resolve st' v = some rv := (resolveF_agree hh hb hr 200).1 v rv x h hR
theorem look_agree {st st' : St} {e : Env} (hb : ∀ id b b', getK none st.boxes id = some b → getK none st'.boxes id = some b' → b = b') (hr : ∀ id b b', getK none st.rows id = some b → getK none st'.rows id = some b' → b = b')
    (v : AV) (rv : SV) (x : Value) (h : look st v = some rv) (hR : R st' e v x) : look st' v = some rv := by
  cases v with
  | box id off =>
    simp only [look] at h ⊢
    obtain ⟨⟨b', hb'⟩, _⟩ := hR
    split at h
    · rename_i b hbb
      obtain rfl := hb id b b' hbb hb'
      rw [hb']; exact h
    · cases h
  | row id =>
    simp only [look] at h ⊢
    obtain ⟨⟨b', hb'⟩, _⟩ := hR
    split at h
    · rename_i b hbb
      obtain rfl := hr id b b' hbb hb'
      rw [hb']; exact h
    · cases h
  | elt id ix sub =>
    simp only [look] at h ⊢
    obtain ⟨b', hb', _⟩ := hR
    split at h
    · rename_i b hbb
      obtain rfl := hr id b b' hbb hb'
      rw [hb']; exact h
    · cases h
  | view id lo hi ex =>
    simp only [look] at h ⊢
    obtain ⟨b', hb', _⟩ := hR
    split at h
    · rename_i b hbb
      obtain rfl := hr id b b' hbb hb'
      rw [hb']; exact h
    · cases h
  | arrp id =>
    simp only [look] at h ⊢
    obtain ⟨b', hb', _⟩ := hR
    split at h
    · rename_i b hbb
      obtain rfl := hr id b b' hbb hb'
      rw [hb']; exact h
    · cases h
  | _ => simpa only [look] using h

theorem RL_mem {st : St} {e : Env} {l : List AV} {vs : List Value} (h : RL st e l vs) : ∀ v ∈ l, ∃ x, R st e v x := by
  induction l generalizing vs with
  | nil => intro v hv; cases hv
  | cons y l ih =>
    obtain ⟨x, vs', _, h1, h2⟩ := h
    intro v hv
    rcases List.mem_cons.1 hv with rfl | hv
    · exact ⟨x, h1⟩
    · exact ih h2 v hv

theorem guardOf_congr {ts ts' : List AV} {j : Nat} {want : Bool} (h : ∀ o t, ops.toList[j]? = some o → o.dst = some t → getK .any ts t = getK .any ts' t) : guardOf ops ts j want = guardOf ops ts' j want := by
  unfold guardOf
  cases ho : ops.toList[j]? with
  | none => rfl
  | some o =>
    simp only
    cases ht : o.dst with
    | none => rfl
    | some t => simp only; rw [h o t ho ht]

theorem looks_operand {o : Oper} {t : Tmp} (h : Operand.tmp t ∈ o.op.operands.toList) : t ∈ o.looksAt ops := by
  unfold Oper.looksAt
  exact List.mem_append_left _ (List.mem_filterMap.2 ⟨_, h, rfl⟩)
theorem looks_guard {o og : Oper} {t : Tmp} {i : Nat} {want : Bool} (hg : o.guard = some (i, want)) (ho : ops.toList[i]? = some og) (ht : og.dst = some t) : t ∈ o.looksAt ops := by
  unfold Oper.looksAt
  refine List.mem_append_right _ ?_
  have : ops[i]? = some og := by simpa using ho
  simp [hg, this, ht]

theorem optOf_congr {op : Op} {ts ts' : List AV} {g : Bool} {l : List Operand} (h : ∀ x ∈ l, opnd ts x = opnd ts' x) : optOfN op ts g l = optOfN op ts' g l := by
  induction l with
  | nil => rfl
  | cons x l ih => simp only [optOfN, h x (by simp), ih (fun y hy => h y (by simp [hy]))]

/-- One operation, where it may come up: it does what it does in the order of the text. -/
theorem step_any {j : Nat} {o : Oper} {st stt : St} {e : Env} {a : Act} {w : World} {av : AV} {eff : Eff} (hTT : TTOK P TT) (hC : ∀ f con, C f = some con → ConOK P G f con) (hgood : ∀ w, Frame c w → G c.g0 w) (hY : YOK P c Y)
    (hd : Data TT C Y ops nb nr j o stt av eff) (htmps : ∀ t, t ∈ o.looksAt ops → getK .any st.tmps t = getK .any stt.tmps t) (hys : st.ys = stt.ys)
    (hb : ∀ id b b', getK none stt.boxes id = some b → getK none st.boxes id = some b' → b = b') (hr : ∀ id b b', getK none stt.rows id = some b → getK none st.rows id = some b' → b = b')
    (hh : HeapOK c e st w) (ht : TmpsOK c st e a) (hfb : getK none st.boxes (nb + j) = none) (hfr : ∀ i, nr + 4 * j ≤ i → i < nr + 4 * j + 4 → getK none st.rows i = none)
    {K' : Act → World → Prop} {Q : Exit → Act → World → Prop} (hK : ∀ e' a' w', HeapOK c e' (stepOf nb nr j o st av eff) w' → TmpsOK c (stepOf nb nr j o st av eff) e' a' → K' a' w') :
    if Region.wanted o (yielded ops a.tmps) then o.wpIn (W c.r) 0 P a w K' Q else K' (a.put o.dst undef) w := by
  have hop : ∀ x ∈ o.op.operands.toList, opnd st.tmps x = opnd stt.tmps x := fun x hx => by
    cases x with
    | tmp t => exact htmps t (looks_operand hx)
    | _ => rfl
  have go : Data TT C Y ops nb nr j o st av eff → if Region.wanted o (yielded ops a.tmps) then o.wpIn (W c.r) 0 P a w K' Q else K' (a.put o.dst undef) w := fun hd' =>
    vcOp_sound (add := true) (fb := nb + j) (fr := nr + 4 * j) (K := fun s => s = stepOf nb nr j o st av eff) hTT hC hgood hY hh ht (fun i h1 h2 => (Nat.le_antisymm h1 (Nat.le_of_lt_succ (h2 rfl))) ▸ hfb) (fun i h1 h2 => hfr i h1 (h2 rfl)) (vcOp_data.2 ⟨av, eff, hd', rfl⟩) (fun st' e' a' w' h1 h2 h3 => by subst h3; exact hK e' a' w' h1 h2)
  unfold Data at hd
  cases hg : o.guard with
  | none =>
    rw [hg] at hd
    obtain ⟨h1, pre, h2, h3⟩ := hd
    refine go ?_
    unfold Data
    rw [hg, hys]
    refine ⟨h1, pre, tr_local hop (fun x hx rv hrv => ?_) (fun x hx rv hrv => ?_) (fun x hx g caps hx' v hv rv hrv => ?_) h2, h3⟩
    · have := opnd_R ht x
      rw [hop x hx] at this
      exact look_agree hb hr _ _ _ hrv this
    · have := opnd_R ht x
      rw [hop x hx] at this
      exact resolve_agree hh hb hr _ _ _ hrv this
    · have := opnd_R ht x
      rw [hop x hx, hx'] at this
      obtain ⟨vs, _, hl⟩ := this
      obtain ⟨u, hu⟩ := RL_mem hl v hv
      exact resolve_agree hh hb hr _ _ _ hrv hu
  | some q =>
    obtain ⟨i, want⟩ := q
    rw [hg] at hd
    obtain ⟨rfl, g, pre, av0, rfl, h1, h2, h3, h4⟩ := hd
    have hgo : guardOf ops st.tmps i want = some g := by
      rw [← h1]; exact guardOf_congr fun og t ho ht' => htmps t (looks_guard hg ho ht')
    have hopt : optOfN o.op st.tmps g o.op.operands.toList = optOfN o.op stt.tmps g o.op.operands.toList := optOf_congr hop
    cases hgv : g with
    | true =>
      rw [hgv] at h1 h2 h3 h4 hgo hopt
      rw [hgv] at go
      refine go ?_
      unfold Data
      rw [hg, hys]
      have hR : ∀ x ∈ o.op.operands.toList, R st e (unoptN (needs o.op x) true (opnd stt.tmps x)).2 (a.eval x) := fun x hx => by
        have h5 := unoptN_R (g := true) (opnd_R ht x) rfl (optOfN_spec (by rw [hopt]; exact h3) x hx)
        rwa [hop x hx] at h5
      refine ⟨rfl, true, pre, av0, rfl, hgo, tr_local (fun x hx => by rw [hop x hx]) (fun x hx rv hrv => ?_) (fun x hx rv hrv => ?_) (fun x hx g' caps hx' v hv rv hrv => ?_) h2, by rw [hopt]; exact h3, h4⟩
      · exact look_agree hb hr _ _ _ hrv (hR x hx)
      · exact resolve_agree hh hb hr _ _ _ hrv (hR x hx)
      · have h5 := hR x hx
        rw [hx'] at h5
        obtain ⟨vs, _, hl⟩ := h5
        obtain ⟨u, hu⟩ := RL_mem hl v hv
        exact resolve_agree hh hb hr _ _ _ hrv hu
    | false =>
      rw [hgv] at hgo hK
      have hw := guardOf_spec (o := o) ht hg hgo
      rw [hw, if_neg (by simp)]
      unfold stepOf at hK
      obtain ⟨ts, bs, rs, ys, pn⟩ := st
      cases hdst : o.dst with
      | none => rw [hdst] at hK; exact hK e _ w hh ht
      | some d =>
        rw [hdst] at hK
        exact hK e _ w (HeapOK_tmps hh) (put_ok (st' := ⟨ts, bs, rs, ys, pn⟩) (av := .opt false av0) ht.1 ht.2 ⟨fun h => (by cases h), fun _ => rfl⟩)

/- ## The whole region -/
/-- Which operations are early; which one waits for which. -/
def E (C : Nat → Option Con) (ops : Array Oper) (i : Nat) : Bool := getK false (elOf C ops.toList) i
def waits (ops : Array Oper) (j i : Nat) : Bool := ((masks [] ops.toList).getD j 0).testBit i
def Fl (C : Nat → Option Con) (ops : Array Oper) (i : Nat) : Bool := floatB (masks [] ops.toList) (elOf C ops.toList) i
def Sk (C : Nat → Option Con) (ops : Array Oper) (k i : Nat) : Bool := E C ops i && decide (i < k)

structure DrawFacts (C : Nat → Option Con) (ops : Array Oper) : Prop where
  edge : ∀ (j : Nat) (o : Oper), ops.toList[j]? = some o → ∀ e ∈ o.after.toList, Region.binds .any e = true → e.on < j
  pre : ∀ (j : Nat) (o : Oper), ops.toList[j]? = some o → E C ops j = true → ∀ (i : Nat) (oi : Oper) (d : Tmp), E C ops i = true → ops.toList[i]? = some oi → oi.dst = some d → i ≠ j →
    o.dst ≠ some d ∧ (d ∉ o.looksAt ops ∨ (i < j ∧ waits ops j i = true) ∨ (j < i ∧ waits ops i j = true))
  flo : ∀ (j : Nat) (o : Oper), ops.toList[j]? = some o → Fl C ops j = true → o.guard = none ∧ pureOp o.op = true ∧ (∃ d, o.dst = some d) ∧
    ∀ (i : Nat) (oi : Oper) (d : Tmp), E C ops i = true → ops.toList[i]? = some oi → oi.dst = some d → d ∉ o.looksAt ops ∨ (i ≠ j ∧ waits ops j i = true)
  late : ∀ (j : Nat) (o : Oper), ops.toList[j]? = some o → E C ops j = false → ∀ i, i < ops.toList.length → i ≠ j → waits ops j i = true ∨
    (E C ops i = true ∧ ∀ (oi : Oper) (d : Tmp), ops.toList[i]? = some oi → oi.dst = some d → o.dst ≠ some d ∧ d ∉ o.looksAt ops) ∨ (E C ops i = false ∧ j < i)

theorem Fl_E {C : Nat → Option Con} {ops : Array Oper} {i : Nat} (h : Fl C ops i = true) : E C ops i = true := by
  unfold Fl floatB at h; simp only [Bool.and_eq_true] at h; exact h.1
theorem getKD {α : Type} (d : α) (l : List α) (n : Nat) : getK d l n = l.getD n d := by
  rw [getK_eq, List.getD_eq_getElem?_getD]
theorem revA_length {α : Type} (l : List α) : ∀ acc, (revA l acc).length = l.length + acc.length := by
  induction l with
  | nil => intro acc; simp [revA]
  | cons x l ih => intro acc; simp only [revA, ih, List.length_cons]; omega
theorem earlyT_length (C : Nat → Option Con) (l : List Oper) : ∀ n acc, (earlyT C l n acc).length = l.length + acc.length := by
  induction l with
  | nil => intro n acc; simp [earlyT, revA_length]
  | cons o l ih =>
    intro n acc
    simp only [earlyT]
    split
    · rw [ih]; simp only [List.length_cons]; omega
    · split <;> (rw [ih]; simp only [List.length_cons]; omega)
theorem elOf_length (C : Nat → Option Con) (l : List Oper) : (elOf C l).length = l.length := by
  unfold elOf; rw [earlyT_length]; simp
theorem boolLK_eq (l : List Bool) (k : List Bool → Prop) : boolLK l k = k l := by
  induction l generalizing k with
  | nil => rfl
  | cons b l ih =>
    show (match b with | true => boolLK l fun l => k (true :: l) | false => boolLK l fun l => k (false :: l)) = _
    cases b <;> simp [ih]
theorem natF_eq {α : Type} (n : Nat) (k : Nat → α) : natF n k = k n := by cases n <;> rfl
theorem snocF_eq {α : Type} (acc : List Nat) (m : Nat) (k : List Nat → α) : snocF acc m k = k (acc ++ [m]) := by
  induction acc generalizing k with
  | nil => rfl
  | cons x l ih => simp [snocF, ih]
theorem masksT_eq (l : List Oper) : ∀ acc, masksT l acc = masks acc l := by
  induction l with
  | nil => intro acc; rfl
  | cons o l ih => intro acc; simp only [masksT, natF_eq, snocF_eq, ih, masks]
theorem allT_get {l : List Bool} (h : allT l = true) : ∀ i, i < l.length → getK false l i = true := by
  induction l with
  | nil => intro i hi; simp at hi
  | cons b l ih =>
    cases b with
    | false => simp [allT] at h
    | true => intro i hi; cases i with
      | zero => rfl
      | succ i => exact ih (by simpa [allT] using h) i (by simpa using hi)
theorem E_lt {C : Nat → Option Con} {ops : Array Oper} {i : Nat} (h : E C ops i = true) : i < ops.toList.length := by
  rcases Nat.lt_or_ge i ops.toList.length with h' | h'
  · exact h'
  · unfold E at h; rw [getK_length _ _ _ (by rw [elOf_length]; exact h')] at h; cases h
theorem Fl_of {C : Nat → Option Con} {ops : Array Oper} {i j : Nat} (hi : E C ops i = true) (hj : E C ops j = false) (hjl : j < ops.toList.length) (hb : waits ops j i = false) : Fl C ops i = true := by
  unfold Fl floatB
  rw [show getK false (elOf C ops.toList) i = true from hi, Bool.true_and, List.any_eq_true]
  refine ⟨j, by rw [List.mem_range, masks_length]; simpa using hjl, ?_⟩
  rw [show getK false (elOf C ops.toList) j = false from hj, getKD, show ((masks [] ops.toList).getD j 0).testBit i = false from hb]; rfl

theorem drawOk_facts (h : drawOk C ops = true) : DrawFacts C ops := by
  unfold drawOk at h
  simp only [List.all_eq_true, List.mem_range, getKD 0] at h
  have key : ∀ (j : Nat) (o : Oper), ops.toList[j]? = some o → j < ops.toList.length := fun j o ho => (List.getElem?_eq_some_iff.1 ho).1
  refine ⟨fun j o ho e he hb => ?_, fun j o ho hE i oi d hi hoi hd hne => ?_, fun j o ho hF => ?_, fun j o ho hE i hi hne => ?_⟩
  · have := h j (key j o ho)
    rw [ho] at this
    simp only [Bool.and_eq_true, List.all_eq_true] at this
    have := this.1 e he
    simpa [hb] using this
  · have := h j (key j o ho)
    rw [ho] at this
    simp only [Bool.and_eq_true] at this
    have h2 := this.2
    rw [if_pos (show getK false (elOf C ops.toList) j = true from hE)] at h2
    have h3 := ((Bool.and_eq_true _ _).mp h2).1
    simp only [List.all_eq_true, List.mem_range] at h3
    have h4 := h3 i (E_lt hi)
    rw [show getK false (elOf C ops.toList) i = true from hi, hoi] at h4
    simp only [hd] at h4
    have hij : (i == j) = false := by simpa using hne
    rw [hij] at h4
    simp only [Bool.not_true, Bool.false_or, Bool.and_eq_true, Bool.or_eq_true, bne_iff_ne, ne_eq, Bool.not_eq_true', decide_eq_true_eq] at h4
    refine ⟨h4.1, ?_⟩
    rcases h4.2 with (h5 | h5) | h5
    · exact .inl (by simpa using h5)
    · exact .inr (.inl h5)
    · exact .inr (.inr h5)
  · have hE := Fl_E hF
    have := h j (key j o ho)
    rw [ho] at this
    simp only [Bool.and_eq_true] at this
    have h2 := this.2
    rw [if_pos (show getK false (elOf C ops.toList) j = true from hE)] at h2
    have h3 := ((Bool.and_eq_true _ _).mp h2).2
    rw [show floatB (masks [] ops.toList) (elOf C ops.toList) j = true from hF] at h3
    simp only [Bool.not_true, Bool.false_or, Bool.and_eq_true, List.all_eq_true, List.mem_range, Option.isNone_iff_eq_none] at h3
    obtain ⟨⟨⟨h4, h5⟩, h6⟩, h7⟩ := h3
    refine ⟨h4, h5, Option.isSome_iff_exists.1 h6, fun i oi d hi hoi hd => ?_⟩
    have h8 := h7 i (E_lt hi)
    rw [show getK false (elOf C ops.toList) i = true from hi, hoi] at h8
    simp only [hd, Bool.not_true, Bool.false_or, Bool.or_eq_true, Bool.and_eq_true, bne_iff_ne, ne_eq] at h8
    rcases h8 with h8 | h8
    · exact .inl (by simpa using h8)
    · exact .inr h8
  · have := h j (key j o ho)
    rw [ho] at this
    simp only [Bool.and_eq_true] at this
    have h2 := this.2
    rw [if_neg (by rw [show getK false (elOf C ops.toList) j = false from hE]; simp)] at h2
    simp only [List.all_eq_true, List.mem_range] at h2
    have h3 := h2 i hi
    have hij : (i == j) = false := by simpa using hne
    rw [hij] at h3
    simp only [Bool.false_or, Bool.or_eq_true] at h3
    rcases h3 with h3 | h3
    · exact .inl h3
    · right
      cases hEi : E C ops i with
      | true =>
        rw [if_pos (show getK false (elOf C ops.toList) i = true from hEi)] at h3
        refine .inl ⟨rfl, fun oi d hoi hd => ?_⟩
        rw [hoi] at h3
        simp only [hd, Bool.and_eq_true, bne_iff_ne, ne_eq, Bool.not_eq_true'] at h3
        exact ⟨h3.1, by simpa using h3.2⟩
      | false =>
        rw [if_neg (by rw [show getK false (elOf C ops.toList) i = false from hEi]; simp)] at h3
        exact .inr ⟨rfl, of_decide_eq_true h3⟩

/-- The early operations, in the order of the text. -/
theorem vcPre_chain {st0 : St} {K : St → Prop} (hf : DrawFacts C ops) : ∀ (k : Nat) (l : List Oper) (el : List Bool) (st : St) (ds : Nat → AV × Eff), l = ops.toList.drop k → el = (elOf C ops.toList).drop k → Abs st0 ops.toList ds (Sk C ops k) st →
    (∀ j, j < k → E C ops j = true → ∃ o stt, ops.toList[j]? = some o ∧ Abs st0 ops.toList ds (Sk C ops j) stt ∧ Data TT C Y ops st0.boxes.length st0.rows.length j o stt (ds j).1 (ds j).2) →
    vcPre TT C Y ops st0.boxes.length st0.rows.length k l el st K →
    ∃ ds' stn, (∀ j, E C ops j = true → ∃ o stt, ops.toList[j]? = some o ∧ Abs st0 ops.toList ds' (Sk C ops j) stt ∧ Data TT C Y ops st0.boxes.length st0.rows.length j o stt (ds' j).1 (ds' j).2) ∧ Abs st0 ops.toList ds' (E C ops) stn ∧ K stn := by
  intro k l
  induction l generalizing k with
  | nil =>
    intro el st ds hl _ hA hD hv
    have hlen : ops.toList.length ≤ k := by
      have : (ops.toList.drop k).length = 0 := by rw [← hl]; rfl
      rw [List.length_drop] at this
      omega
    have hS : Sk C ops k = E C ops := by
      funext i
      unfold Sk
      cases h : E C ops i with
      | false => rfl
      | true => have := E_lt h; simp; omega
    rw [hS] at hA
    exact ⟨ds, st, fun j hE => hD j (by have := E_lt hE; omega) hE, hA, hv⟩
  | cons o l ih =>
    intro el st ds hl hel hA hD hv
    have hklt : k < ops.toList.length := by
      rcases Nat.lt_or_ge k ops.toList.length with h | h
      · exact h
      · rw [List.drop_eq_nil_of_le h] at hl; cases hl
    have hdrop : ops.toList.drop k = ops.toList[k] :: ops.toList.drop (k + 1) := List.drop_eq_getElem_cons hklt
    rw [hdrop] at hl
    injection hl with hl1 hl2
    have hok : ops.toList[k]? = some o := by rw [List.getElem?_eq_getElem hklt, hl1]
    have hkel : k < (elOf C ops.toList).length := by rw [elOf_length]; exact hklt
    rw [List.drop_eq_getElem_cons hkel] at hel
    have hEk : E C ops k = (elOf C ops.toList)[k] := by unfold E; rw [getK_eq, List.getElem?_eq_getElem hkel]; rfl
    subst hel
    rw [← hEk] at hv
    change (match E C ops k :: (elOf C ops.toList).drop (k + 1) with
      | [] => False
      | false :: el => vcPre TT C Y ops st0.boxes.length st0.rows.length (k + 1) l el st K
      | true :: el => vcOp TT C Y true (st0.boxes.length + k) (st0.rows.length + 4 * k) ops o st fun st' => vcPre TT C Y ops st0.boxes.length st0.rows.length (k + 1) l el st' K) at hv
    cases hE : E C ops k with
    | false =>
      rw [hE] at hv
      have hS : Sk C ops k = Sk C ops (k + 1) := by
        funext i
        unfold Sk
        by_cases hi : i = k
        · subst hi; rw [hE]; simp
        · cases E C ops i <;> simp; omega
      rw [hS] at hA
      exact ih (k + 1) _ st ds hl2 rfl hA (fun j hj hEj => hD j (by
        rcases Nat.lt_or_ge j k with h | h
        · exact h
        · have : j = k := by omega
          subst this; rw [hE] at hEj; cases hEj) hEj) hv
    | true =>
    rw [hE] at hv
    obtain ⟨av, eff, hdat, hv⟩ := vcOp_data.1 hv
    -- the datum of this operation is laid
    let ds' : Nat → AV × Eff := fun i => if i = k then (av, eff) else ds i
    have hds : ∀ i, i ≠ k → ds' i = ds i := fun i hi => by simp [ds', hi]
    have hSk : ∀ m, m ≤ k → ∀ i, Sk C ops m i = true → i ≠ k := fun m hm i hS => by
      unfold Sk at hS; simp at hS; omega
    have hAbs : ∀ (m : Nat) (s : St), m ≤ k → Abs st0 ops.toList ds (Sk C ops m) s → Abs st0 ops.toList ds' (Sk C ops m) s := by
      intro m s hm hs
      refine ⟨hs.ys, hs.pin, hs.len, fun i t oi hS hoi hd ht => ?_, hs.miss, hs.boxOld, fun i => ?_, hs.rowOld, fun i q hq => ?_⟩
      · rw [hds i (hSk m hm i hS)]; exact hs.hit i t oi hS hoi hd ht
      · rw [hs.boxNew i]
        cases hS : Sk C ops m i with
        | false => rfl
        | true => rw [hds i (hSk m hm i hS)]
      · rw [hs.rowNew i q hq]
        cases hS : Sk C ops m i with
        | false => rfl
        | true => rw [hds i (hSk m hm i hS)]
    have hadds : eff.adds = true := by
      unfold Data at hdat
      cases hg : o.guard with
      | none => rw [hg] at hdat; exact hdat.1
      | some q => obtain ⟨i, want⟩ := q; rw [hg] at hdat; rw [hdat.1]; rfl
    have hdk : ds' k = (av, eff) := by simp [ds']
    have hstep := (hAbs k st (Nat.le_refl _) hA).step (j := k) (by unfold Sk; simp) hok (fun i oi d hS hne hoi hd => (hf.pre k o hok hE i oi d (by unfold Sk at hS; simp at hS; exact hS.1) hoi hd hne).1) (by rw [hdk]; exact hadds)
    rw [hdk] at hstep
    have hS : (fun i => Sk C ops k i || i == k) = Sk C ops (k + 1) := by
      funext i
      unfold Sk
      by_cases hi : i = k
      · subst hi; rw [hE]; simp
      · have : (i == k) = false := by simpa using hi
        rw [this]
        cases E C ops i <;> simp; omega
    rw [hS] at hstep
    refine ih (k + 1) _ _ ds' hl2 rfl hstep (fun j hj hEj => ?_) hv
    by_cases hjk : j = k
    · subst hjk
      exact ⟨o, st, hok, hAbs _ _ (Nat.le_refl _) hA, by rw [hdk]; exact hdat⟩
    · obtain ⟨oj, stt, h1, h2, h3⟩ := hD j (by omega) hEj
      exact ⟨oj, stt, h1, hAbs _ _ (by omega) h2, by rw [hds j hjk]; exact h3⟩

theorem abs_ext {st0 st st' : St} {l : List Oper} {ds : Nat → AV × Eff} {S S' : Nat → Bool} (h : Abs st0 l ds S st) (h' : Abs st0 l ds S' st') (hS : ∀ i, S i = S' i) :
    st.tmps = st'.tmps ∧ (∀ id, getK none st.boxes id = getK none st'.boxes id) ∧ ∀ id, getK none st.rows id = getK none st'.rows id := by
  refine ⟨?_, fun id => ?_, fun id => ?_⟩
  · apply List.ext_getElem? 
    intro t
    by_cases ht : t < st0.tmps.length
    · have h1 : getK .any st.tmps t = getK .any st'.tmps t := by
        by_cases hex : ∃ i o, S i = true ∧ l[i]? = some o ∧ o.dst = some t
        · obtain ⟨i, o, h2, h3, h4⟩ := hex
          rw [h.hit i t o h2 h3 h4 ht, h'.hit i t o (by rw [← hS i]; exact h2) h3 h4 ht]
        · rw [h.miss t (fun i o h2 h3 h4 => hex ⟨i, o, h2, h3, h4⟩), h'.miss t (fun i o h2 h3 h4 => hex ⟨i, o, by rw [hS i]; exact h2, h3, h4⟩)]
      have hl1 := h.len
      have hl2 := h'.len
      rw [getK_eq, getK_eq] at h1
      have e1 := List.getElem?_eq_getElem (l := st.tmps) (i := t) (by omega)
      have e2 := List.getElem?_eq_getElem (l := st'.tmps) (i := t) (by omega)
      rw [e1, e2] at h1
      rw [e1, e2]
      simpa using h1
    · have hl1 := h.len
      have hl2 := h'.len
      rw [List.getElem?_eq_none (by omega), List.getElem?_eq_none (by omega)]
  · by_cases hid : id < st0.boxes.length
    · rw [h.boxOld id hid, h'.boxOld id hid]
    · obtain ⟨i, rfl⟩ : ∃ i, id = st0.boxes.length + i := ⟨id - st0.boxes.length, by omega⟩
      rw [h.boxNew, h'.boxNew]
      rw [hS i]
  · by_cases hid : id < st0.rows.length
    · rw [h.rowOld id hid, h'.rowOld id hid]
    · obtain ⟨i, k, hk, rfl⟩ : ∃ i k, k < 4 ∧ id = st0.rows.length + 4 * i + k := ⟨(id - st0.rows.length) / 4, (id - st0.rows.length) % 4, by omega, by omega⟩
      rw [h.rowNew i k hk, h'.rowNew i k hk]
      rw [hS i]

/-- Two states that some operations have led to answer alike at a temporary whose writers came up in both or in none. -/
theorem abs_tmp {st0 st st' : St} {l : List Oper} {ds : Nat → AV × Eff} {S S' : Nat → Bool} {t : Tmp} (h : Abs st0 l ds S st) (h' : Abs st0 l ds S' st')
    (hS : ∀ i o, l[i]? = some o → o.dst = some t → S i = S' i) : getK .any st.tmps t = getK .any st'.tmps t := by
  by_cases ht : t < st0.tmps.length
  · by_cases hex : ∃ i o, S i = true ∧ l[i]? = some o ∧ o.dst = some t
    · obtain ⟨i, o, h2, h3, h4⟩ := hex
      rw [h.hit i t o h2 h3 h4 ht, h'.hit i t o (by rw [← hS i o h3 h4]; exact h2) h3 h4 ht]
    · rw [h.miss t (fun i o h2 h3 h4 => hex ⟨i, o, h2, h3, h4⟩), h'.miss t (fun i o h2 h3 h4 => hex ⟨i, o, by rw [hS i o h3 h4]; exact h2, h3, h4⟩)]
  · rw [getK_length _ _ _ (by rw [h.len]; exact Nat.le_of_not_lt ht), getK_length _ _ _ (by rw [h'.len]; exact Nat.le_of_not_lt ht)]

theorem abs_box {st0 st st' : St} {l : List Oper} {ds : Nat → AV × Eff} {S S' : Nat → Bool} (h : Abs st0 l ds S st) (h' : Abs st0 l ds S' st') (id : Nat) (b b' : Box)
    (hb : getK none st.boxes id = some b) (hb' : getK none st'.boxes id = some b') : b = b' := by
  by_cases hid : id < st0.boxes.length
  · rw [h.boxOld id hid] at hb; rw [h'.boxOld id hid] at hb'
    rw [hb] at hb'; exact Option.some.inj hb'
  · obtain ⟨i, rfl⟩ : ∃ i, id = st0.boxes.length + i := ⟨id - st0.boxes.length, by omega⟩
    rw [h.boxNew] at hb; rw [h'.boxNew] at hb'
    split at hb
    · split at hb'
      · rw [hb] at hb'; exact Option.some.inj hb'
      · cases hb'
    · cases hb
theorem abs_row {st0 st st' : St} {l : List Oper} {ds : Nat → AV × Eff} {S S' : Nat → Bool} (h : Abs st0 l ds S st) (h' : Abs st0 l ds S' st') (id : Nat) (b b' : Row)
    (hb : getK none st.rows id = some b) (hb' : getK none st'.rows id = some b') : b = b' := by
  by_cases hid : id < st0.rows.length
  · rw [h.rowOld id hid] at hb; rw [h'.rowOld id hid] at hb'
    rw [hb] at hb'; exact Option.some.inj hb'
  · obtain ⟨i, k, hk, rfl⟩ : ∃ i k, k < 4 ∧ id = st0.rows.length + 4 * i + k := ⟨(id - st0.rows.length) / 4, (id - st0.rows.length) % 4, by omega, by omega⟩
    rw [h.rowNew i k hk] at hb; rw [h'.rowNew i k hk] at hb'
    split at hb
    · split at hb'
      · rw [hb] at hb'; exact Option.some.inj hb'
      · cases hb'
    · cases hb

/-- What came up is shut under the edges. -/
def Shut (ops : Array Oper) (S : Nat → Bool) : Prop := ∀ (j : Nat) (o : Oper), S j = true → ops.toList[j]? = some o → ∀ e ∈ o.after.toList, Region.binds .any e = true → S e.on = true

theorem shut_mask {S : Nat → Bool} (h : Shut ops S) : ∀ (j : Nat), S j = true → ∀ k, ((masks [] ops.toList).getD j 0).testBit k = true → S k = true := by
  intro j
  induction j using Nat.strongRecOn with
  | ind j ih =>
    intro hj k hk
    rcases Nat.lt_or_ge j ops.toList.length with hlt | hge
    · have ho := List.getElem?_eq_getElem hlt
      have := masks_bit ops.toList [] j k _ ho (by simpa using hk)
      simp only [List.length_nil, Nat.zero_add] at this
      obtain ⟨e, he, hb, hor⟩ := this
      have hS := h j _ hj ho e he hb
      rcases hor with rfl | ⟨hlt', hbit⟩
      · exact hS
      · exact ih e.on hlt' hS k hbit
    · have : (masks [] ops.toList).getD j 0 = 0 := by
        rw [List.getD_eq_getElem?_getD, List.getElem?_eq_none (by rw [masks_length]; simpa using hge)]; rfl
      rw [this] at hk; simp at hk
/-- Likewise, what is ahead of one that is ready. -/
theorem ready_mask {S : Nat → Bool} (h : Shut ops S) {j : Nat} {o : Oper} (ho : ops.toList[j]? = some o) (hr : ∀ e ∈ o.after.toList, Region.binds .any e = true → S e.on = true) (k : Nat) (hk : ((masks [] ops.toList).getD j 0).testBit k = true) : S k = true := by
  have := masks_bit ops.toList [] j k _ ho (by simpa using hk)
  simp only [List.length_nil, Nat.zero_add] at this
  obtain ⟨e, he, hb, hor⟩ := this
  rcases hor with rfl | ⟨_, hbit⟩
  · exact hr e he hb
  · exact shut_mask h e.on (hr e he hb) k hbit

theorem wpOp_of {P : Program} {F : Fence} {ops : Array Oper} {Q : Exit → Act → World → Prop} {j : Nat} {o : Oper} {K : Act → World → Prop} {a : Act} {w : World} (hF : ∀ f, F.fn f) (ho : ops[j]? = some o)
    (h : if Region.wanted o (yielded ops a.tmps) then o.wpIn F 0 P a w K Q else K (a.put o.dst undef) w) : wpOpIn F 0 P ops Q j K a w := by
  unfold wpOpIn
  rw [ho]
  simp only
  split
  · rename_i hw; rw [if_pos hw] at h; exact h
  · rename_i hw; rw [if_neg hw] at h; exact ⟨fun f _ => hF f, h⟩

theorem HeapOK_drawn {e : Env} {st : St} {w : World} (h : HeapOK c e st w) (d : Nat) : HeapOK c e st { w with drawn := d } :=
  ⟨⟨h.frame.os, h.frame.tape, h.frame.output, h.frame.size, h.frame.block⟩, h.box, h.row, h.injB, h.injR, h.apart, c.Jst _ _ _ _ h.out rfl rfl rfl (Nat.le_refl _) (fun k hk => rfl), h.defd, h.defm, h.mwr, h.yl, h.nd, h.pin⟩

/- ## The late ones -/
/-- A state that does not tell some temporaries. -/
def anyAt (U : Nat → Bool) : List AV → Nat → List AV
  | [], _ => []
  | x :: l, i => (if U i = true then .any else x) :: anyAt U l (i + 1)
def hide (U : Nat → Bool) (st : St) : St := ⟨anyAt U st.tmps 0, st.boxes, st.rows, st.ys, st.pin⟩

theorem anyAt_length (U : Nat → Bool) (l : List AV) : ∀ k, (anyAt U l k).length = l.length := by
  induction l with
  | nil => intro k; rfl
  | cons x l ih => intro k; simp [anyAt, ih]
theorem anyAt_get (U : Nat → Bool) (l : List AV) : ∀ k i, getK .any (anyAt U l k) i = if U (k + i) = true then .any else getK .any l i := by
  induction l with
  | nil => intro k i; simp [anyAt, getK]
  | cons x l ih =>
    intro k i
    cases i with
    | zero => simp [anyAt, getK]
    | succ i => simp only [anyAt, getK, ih]; rw [show k + 1 + i = k + (i + 1) by omega]
theorem anyAt_none {U : Nat → Bool} (h : ∀ t, U t = false) (l : List AV) : ∀ k, anyAt U l k = l := by
  induction l with
  | nil => intro k; rfl
  | cons x l ih => intro k; simp [anyAt, h, ih]
theorem hide_none {U : Nat → Bool} (h : ∀ t, U t = false) (st : St) : hide U st = st := by
  cases st; simp [hide, anyAt_none h]
theorem sweep_any (ids : List Nat) : sweep ids .any = .any := by simp [sweep, AV.hits]
theorem anyAt_map (U : Nat → Bool) (ids : List Nat) (l : List AV) : ∀ k, mapK (sweep ids) (anyAt U l k) = anyAt U (mapK (sweep ids) l) k := by
  induction l with
  | nil => intro k; rfl
  | cons x l ih =>
    intro k
    simp only [anyAt, mapK, ih]
    split
    · rw [sweep_any]
    · rfl
theorem anyAt_set (U : Nat → Bool) (av : AV) (l : List AV) : ∀ k d, U (k + d) = false → (anyAt U l k).set d av = anyAt U (l.set d av) k := by
  induction l with
  | nil => intro k d _; rfl
  | cons x l ih =>
    intro k d h
    cases d with
    | zero => simp only [Nat.add_zero] at h; simp [anyAt, h]
    | succ d => simp only [anyAt, List.set_cons_succ]; rw [ih (k + 1) d (by rw [← h]; congr 1; omega)]
theorem anyAt_fill {U U' : Nat → Bool} (l : List AV) : ∀ k d, (∀ t, U' t = (U t && t != k + d)) → (anyAt U l k).set d (getK .any l d) = anyAt U' l k := by
  induction l with
  | nil => intro k d _; rfl
  | cons x l ih =>
    intro k d h
    cases d with
    | zero =>
      simp only [anyAt, List.set_cons_zero, getK]
      rw [show U' k = false by rw [h k]; simp]
      have : ∀ (l : List AV) (j : Nat), k < j → anyAt U l j = anyAt U' l j := by
        intro l
        induction l with
        | nil => intro j _; rfl
        | cons y l ih2 => intro j hj; simp only [anyAt]; rw [ih2 (j + 1) (by omega), h j, show (j != k + 0) = true by simp; omega, Bool.and_true]
      rw [this l (k + 1) (by omega)]; rfl
    | succ d =>
      simp only [anyAt, List.set_cons_succ, getK]
      rw [ih (k + 1) d (fun t => by rw [h t]; congr 2; omega), h k, show (k != k + (d + 1)) = true by simp, Bool.and_true]
theorem RL_any {st : St} {e : Env} {U : Nat → Bool} (l : List AV) : ∀ k (vs : List Value), RL st e l vs → RL st e (anyAt U l k) vs := by
  induction l with
  | nil => intro k vs h; exact h
  | cons x l ih =>
    intro k vs h
    obtain ⟨v, vs', rfl, h1, h2⟩ := h
    refine ⟨v, vs', rfl, ?_, ih _ _ h2⟩
    split
    · trivial
    · exact h1
theorem apply_hide {U : Nat → Bool} {fb fr : Nat} {eff : Eff} {st : St} : eff.apply fb fr (hide U st) = hide U (eff.apply fb fr st) := by
  obtain ⟨ts, bs, rs, ys, pn⟩ := st
  cases eff with
  | call bs' rs' k sr => cases k <;> simp [Eff.apply, hide, anyAt_map]
  | _ => simp [Eff.apply, hide, anyAt_map]
theorem look_hide {U : Nat → Bool} {st : St} : look (hide U st) = look st := by
  funext v; cases v <;> rfl

/-- What an operation without a guard leads to. -/
def stepG (fb fr : Nat) (o : Oper) (st : St) (av : AV) (eff : Eff) : St :=
  match o.dst with
  | some d => ⟨(eff.apply fb fr st).tmps.set d av, (eff.apply fb fr st).boxes, (eff.apply fb fr st).rows, (eff.apply fb fr st).ys, (eff.apply fb fr st).pin⟩
  | none => eff.apply fb fr st
theorem vcOp_none {fb fr : Nat} {o : Oper} {st : St} {K : St → Prop} (hg : o.guard = none) : vcOp TT C Y false fb fr ops o st K ↔
    ∃ pre av eff, tr TT C Y (opnd st.tmps) (look st) (resolve st) st.ys fb fr o.op = some ⟨pre, av, eff⟩ ∧ (∀ p ∈ pre, p) ∧ K (stepG fb fr o st av eff) := by
  obtain ⟨ts, bs, rs, ys, pn⟩ := st
  unfold vcOp
  simp only [hg]
  cases h : tr TT C Y (opnd ts) (look ⟨ts, bs, rs, ys, pn⟩) (resolve ⟨ts, bs, rs, ys, pn⟩) ys fb fr o.op with
  | none => simp
  | some res =>
    obtain ⟨pre, av, eff⟩ := res
    simp only [Bool.not_false, Bool.true_or, conjP_iff, avK_eq, effK_eq, stK_eq]
    have key : (match o.dst with
          | some d => (match eff.apply fb fr ⟨ts, bs, rs, ys, pn⟩ with | ⟨ts', bs', rs', ys', pn'⟩ => setK ts' d av fun ts' => K ⟨ts', bs', rs', ys', pn'⟩)
          | none => K (eff.apply fb fr ⟨ts, bs, rs, ys, pn⟩)) ↔ K (stepG fb fr o ⟨ts, bs, rs, ys, pn⟩ av eff) := by
      unfold stepG
      generalize eff.apply fb fr ⟨ts, bs, rs, ys, pn⟩ = st'
      obtain ⟨ts', bs', rs', ys', pn'⟩ := st'
      cases o.dst with
      | none => exact Iff.rfl
      | some d => simp only [setK_eq]
    constructor
    · rintro ⟨h1, h2⟩; exact ⟨pre, av, eff, rfl, h1, key.1 h2⟩
    · rintro ⟨pre', av', eff', h1, h2, h3⟩
      cases h1
      exact ⟨h2, key.2 h3⟩

theorem pure_eff {op : Op} {A : Operand → AV} {lk : AV → Option SV} {rs : AV → Option RV} {ys : List (List AV)} {fb fr : Nat} {pre : List Prop} {av : AV} {eff : Eff} (hp : pureOp op = true)
    (h : tr TT C Y A lk rs ys fb fr op = some ⟨pre, av, eff⟩) : eff = .none := by
  cases op <;> simp only [pureOp, Bool.false_eq_true] at hp
  · simp only [tr] at h; cases h; rfl
  · simp only [tr] at h; cases h; rfl
  all_goals
    simp only [tr] at h
    repeat' (split at h)
    all_goals first | (cases h; rfl) | (cases h; done)

theorem flt_iff {st : St} {o : Oper} : flt TT C Y st o ↔ ∃ d, o.dst = some d ∧ tr TT C Y (opnd st.tmps) (look st) (resolve st) st.ys st.boxes.length st.rows.length o.op = some ⟨[], getK .any st.tmps d, .none⟩ := by
  obtain ⟨ts, bs, rs, ys, pn⟩ := st
  unfold flt
  cases o.dst with
  | none => simp
  | some d =>
    simp only [lenK_eq, Nat.zero_add, Option.some.injEq, exists_eq_left']
    exact ⟨fun h => by cases h with | mk h => exact h, fun h => .mk h⟩
theorem fltL_iff {fl : List Oper} {st : St} {K : Prop} : fltL TT C Y fl st K ↔ (∀ o ∈ fl, flt TT C Y st o) ∧ K := by
  induction fl with
  | nil => simp [fltL]
  | cons o l ih =>
    show (flt TT C Y st o ∧ fltL TT C Y l st K) ↔ _
    rw [ih]
    simp only [List.mem_cons, forall_eq_or_imp, and_assoc]
theorem mem_flts {bf : List Nat} {el : List Bool} (l : List Oper) : ∀ (n i : Nat) (o : Oper), l[i]? = some o → floatB bf el (n + i) = true → o ∈ fltsOf bf el l n := by
  induction l with
  | nil => intro n i o h; simp at h
  | cons x l ih =>
    intro n i o h hf
    unfold fltsOf
    cases i with
    | zero =>
      simp only [List.getElem?_cons_zero, Option.some.injEq] at h
      subst h
      simp only [Nat.add_zero] at hf
      rw [hf]; simp
    | succ i =>
      have := ih (n + 1) i o (by simpa using h) (by rw [show n + 1 + i = n + (i + 1) by omega]; exact hf)
      split
      · simp [this]
      · exact this
def fltsL (l : List Oper) (el : List Bool) : List Oper := match allT el with
  | true => []
  | false => fltsOf (masks [] l) el l 0
theorem fltsK_eq (l : List Oper) (el : List Bool) (k : List Oper → Prop) : fltsK l el k = k (fltsL l el) := by
  unfold fltsK fltsL
  cases allT el with
  | true => rfl
  | false => simp only [listK_eq, masksT_eq]
def flts (C : Nat → Option Con) (ops : Array Oper) : List Oper := fltsL ops.toList (elOf C ops.toList)
theorem flts_mem {C : Nat → Option Con} {ops : Array Oper} {i : Nat} {o : Oper} (ho : ops.toList[i]? = some o) (hF : Fl C ops i = true) : o ∈ flts C ops := by
  unfold flts fltsL
  split
  · rename_i h
    unfold Fl floatB at hF
    simp only [Bool.and_eq_true, List.any_eq_true, List.mem_range, Bool.not_eq_true'] at hF
    obtain ⟨_, j, hj, h1, _⟩ := hF
    rw [allT_get h j (by rw [elOf_length]; rw [masks_length] at hj; simpa using hj)] at h1
    cases h1
  · exact mem_flts _ 0 i o ho (by rw [Nat.zero_add]; exact hF)
/-- Late ones from an index on. -/
def LateAt (TT : TypeId → Option TD) (C : Nat → Option Con) (Y : List (List AV) → List AV → Option (Prop × Bool)) (ops : Array Oper) (m : Nat) (st : St) (K : St → Prop) : Prop :=
  vcLate TT C Y ops (flts C ops) (ops.toList.drop m) ((elOf C ops.toList).drop m) st K
theorem el_drop {C : Nat → Option Con} {ops : Array Oper} {m : Nat} (h : m < ops.toList.length) : (elOf C ops.toList).drop m = E C ops m :: (elOf C ops.toList).drop (m + 1) := by
  have hm : m < (elOf C ops.toList).length := by rw [elOf_length]; exact h
  rw [List.drop_eq_getElem_cons hm]
  congr 1
  unfold E; rw [getK_eq, List.getElem?_eq_getElem hm]; rfl
theorem late_skip {st : St} {K : St → Prop} : ∀ (k m : Nat), m + k ≤ ops.toList.length → (∀ i, m ≤ i → i < m + k → E C ops i = true) → LateAt TT C Y ops m st K → LateAt TT C Y ops (m + k) st K := by
  intro k
  induction k with
  | zero => intro m _ _ h; exact h
  | succ k ih =>
    intro m hm hE h
    have hlt : m < ops.toList.length := by omega
    unfold LateAt at h
    rw [el_drop hlt, List.drop_eq_getElem_cons hlt, hE m (Nat.le_refl _) (by omega)] at h
    have h' : LateAt TT C Y ops (m + 1) st K := h
    have := ih (m + 1) (by omega) (fun i h1 h2 => hE i (by omega) (by omega)) h'
    rwa [show m + 1 + k = m + (k + 1) by omega] at this
theorem late_end {st : St} {K : St → Prop} {m : Nat} (hm : ops.toList.length ≤ m) (h : LateAt TT C Y ops m st K) : K st := by
  unfold LateAt at h
  rw [List.drop_eq_nil_of_le hm] at h
  exact h

/-- What is not told: what the floating ones write that have not come up. -/
noncomputable def hid (C : Nat → Option Con) (ops : Array Oper) (S : Nat → Bool) (t : Nat) : Bool :=
  @decide (∃ i o, Fl C ops i = true ∧ S i = false ∧ ops.toList[i]? = some o ∧ o.dst = some t) (Classical.propDecidable _)
theorem hid_iff {S : Nat → Bool} {t : Nat} : hid C ops S t = true ↔ ∃ i o, Fl C ops i = true ∧ S i = false ∧ ops.toList[i]? = some o ∧ o.dst = some t := by
  unfold hid; exact @decide_eq_true_iff _ (Classical.propDecidable _)
theorem hid_false {S : Nat → Bool} {t : Nat} : hid C ops S t = false ↔ ∀ i o, Fl C ops i = true → S i = false → ops.toList[i]? = some o → o.dst ≠ some t := by
  rw [← Bool.not_eq_true, hid_iff]
  simp only [not_exists, not_and, ne_eq]

/-- How far a region has come. -/
inductive Come (TT : TypeId → Option TD) (C : Nat → Option Con) (Y : List (List AV) → List AV → Option (Prop × Bool)) (c : Ctx) (ops : Array Oper) (st0 : St) (ds : Nat → AV × Eff) (K : St → Prop) (S : Nat → Bool) (a : Act) (w : World) : Prop
  | ahead (hS : ∀ i, S i = true → E C ops i = true) (st : St) (e : Env) (hA : Abs st0 ops.toList ds S st) (hh : HeapOK c e st w) (ht : TmpsOK c st e a)
  | behind (m : Nat) (hm : m ≤ ops.toList.length) (hL : ∀ i, E C ops i = false → i < ops.toList.length → (S i = true ↔ i < m)) (hE : ∀ i, E C ops i = true → Fl C ops i = false → S i = true) (st : St) (e : Env)
      (hv : LateAt TT C Y ops m st K) (hf : ∀ o ∈ flts C ops, flt TT C Y st o) (hh : HeapOK c e (hide (hid C ops S) st) w) (ht : TmpsOK c (hide (hid C ops S) st) e a)

section
variable {st0 stn : St} {ds : Nat → AV × Eff} {K : St → Prop} {S : Nat → Bool} {a : Act} {w : World}

theorem Come.turn (hf : DrawFacts C ops) (hD : ∀ j, E C ops j = true → ∃ o stt, ops.toList[j]? = some o ∧ Abs st0 ops.toList ds (Sk C ops j) stt ∧ Data TT C Y ops st0.boxes.length st0.rows.length j o stt (ds j).1 (ds j).2)
    (hAn : Abs st0 ops.toList ds (E C ops) stn) (hfl : ∀ o ∈ flts C ops, flt TT C Y stn o) (hK : LateAt TT C Y ops 0 stn K) (hall : ∀ i, E C ops i = true → Fl C ops i = false → S i = true) (h : Come TT C Y c ops st0 ds K S a w) :
    ∃ m, m ≤ ops.toList.length ∧ (∀ i, E C ops i = false → i < ops.toList.length → (S i = true ↔ i < m)) ∧ ∃ st e, LateAt TT C Y ops m st K ∧ (∀ o ∈ flts C ops, flt TT C Y st o) ∧ HeapOK c e (hide (hid C ops S) st) w ∧ TmpsOK c (hide (hid C ops S) st) e a := by
  cases h with
  | behind m hm hL hE st e hv hfs hh ht => exact ⟨m, hm, hL, st, e, hv, hfs, hh, ht⟩
  | ahead hS st e hA hh ht =>
    have heff : ∀ i, E C ops i = true → S i = false → (ds i).2 = .none := by
      intro i hE hSi
      have hF : Fl C ops i = true := by
        cases hF : Fl C ops i with
        | true => rfl
        | false => rw [hall i hE hF] at hSi; cases hSi
      obtain ⟨o, stt, ho, _, hdat⟩ := hD i hE
      obtain ⟨hg, hp, _⟩ := hf.flo i o ho hF
      unfold Data at hdat
      rw [hg] at hdat
      obtain ⟨_, pre, h2, _⟩ := hdat
      exact pure_eff hp h2
    have hcase : ∀ i, E C ops i = S i ∨ (E C ops i = true ∧ S i = false) := by
      intro i
      cases h1 : E C ops i <;> cases h2 : S i <;> simp
      have := hS i h2; rw [h1] at this; cases this
    have h2 : ∀ id, getK none st.boxes id = getK none stn.boxes id := by
      intro id
      by_cases hid : id < st0.boxes.length
      · rw [hA.boxOld id hid, hAn.boxOld id hid]
      · obtain ⟨i, rfl⟩ : ∃ i, id = st0.boxes.length + i := ⟨id - st0.boxes.length, by omega⟩
        rw [hA.boxNew, hAn.boxNew]
        rcases hcase i with h | ⟨h, h'⟩
        · rw [h]
        · rw [h', h, heff i h h']; rfl
    have h3 : ∀ id, getK none st.rows id = getK none stn.rows id := by
      intro id
      by_cases hid : id < st0.rows.length
      · rw [hA.rowOld id hid, hAn.rowOld id hid]
      · obtain ⟨i, k, hk, rfl⟩ : ∃ i k, k < 4 ∧ id = st0.rows.length + 4 * i + k := ⟨(id - st0.rows.length) / 4, (id - st0.rows.length) % 4, by omega, by omega⟩
        rw [hA.rowNew i k hk, hAn.rowNew i k hk]
        rcases hcase i with h | ⟨h, h'⟩
        · rw [h]
        · rw [h', h, heff i h h']; rfl
    obtain ⟨h4, h5⟩ := ext_heap (c := c) (e := e) (w := w) h2 h3 (hA.ys.trans hAn.ys.symm) (hA.pin.trans hAn.pin.symm)
    refine ⟨0, Nat.zero_le _, fun i hi _ => ⟨fun h => ?_, fun h => absurd h (Nat.not_lt_zero _)⟩, stn, e, hK, hfl, HeapOK_tmps (h5 hh), ?_, ht.2⟩
    · rw [hS i h] at hi; cases hi
    · have h6 := RL_mono (f := fun v => v) h4 ht.1
      have hid' : mapK (fun v : AV => v) st.tmps = st.tmps := by rw [mapK_eq]; simp
      rw [hid'] at h6
      have h7 := RL_any (U := hid C ops S) _ 0 _ h6
      have h8 : anyAt (hid C ops S) st.tmps 0 = anyAt (hid C ops S) stn.tmps 0 := by
        apply List.ext_getElem?
        intro t
        have hl1 : (anyAt (hid C ops S) st.tmps 0).length = st0.tmps.length := by rw [anyAt_length, hA.len]
        have hl2 : (anyAt (hid C ops S) stn.tmps 0).length = st0.tmps.length := by rw [anyAt_length, hAn.len]
        by_cases htl : t < st0.tmps.length
        · have hg : getK .any (anyAt (hid C ops S) st.tmps 0) t = getK .any (anyAt (hid C ops S) stn.tmps 0) t := by
            rw [anyAt_get, anyAt_get]
            split
            · rfl
            · rename_i hnot
              have hnot' : hid C ops S t = false := by simpa using hnot
              refine abs_tmp hA hAn (fun i o ho hd => ?_)
              rcases hcase i with h | ⟨h, h'⟩
              · exact h.symm
              · exfalso
                have hF : Fl C ops i = true := by
                  cases hF : Fl C ops i with
                  | true => rfl
                  | false => rw [hall i h hF] at h'; cases h'
                exact hid_false.1 hnot' i o hF h' ho hd
          rw [getK_eq, getK_eq] at hg
          have e1 := List.getElem?_eq_getElem (l := anyAt (hid C ops S) st.tmps 0) (i := t) (by omega)
          have e2 := List.getElem?_eq_getElem (l := anyAt (hid C ops S) stn.tmps 0) (i := t) (by omega)
          rw [e1, e2] at hg
          rw [e1, e2]
          simpa using hg
        · rw [List.getElem?_eq_none (by omega), List.getElem?_eq_none (by omega)]
      rw [h8] at h7
      exact RL_tmps _ _ h7

theorem Data.adds {j : Nat} {o : Oper} {st : St} {av : AV} {eff : Eff} (h : Data TT C Y ops nb nr j o st av eff) : eff.adds = true := by
  unfold Data at h
  cases hg : o.guard with
  | none => rw [hg] at h; exact h.1
  | some q => obtain ⟨i, want⟩ := q; rw [hg] at h; rw [h.1]; rfl

theorem tr_hide {U : Nat → Bool} {st : St} {fb fr : Nat} {op : Op} {res : Res} (hU : ∀ t, Operand.tmp t ∈ op.operands.toList → U t = false) (h : tr TT C Y (opnd st.tmps) (look st) (resolve st) st.ys fb fr op = some res) :
    tr TT C Y (opnd (hide U st).tmps) (look (hide U st)) (resolve (hide U st)) (hide U st).ys fb fr op = some res := by
  refine tr_local (fun x hx => ?_) (fun x hx rv hrv => ?_) (fun x hx rv hrv => hrv) (fun x hx g' caps hx' v hv rv hrv => hrv) h
  · cases x with
    | tmp t => show getK .any (anyAt U st.tmps 0) t = getK .any st.tmps t; rw [anyAt_get, Nat.zero_add, hU t hx]; rfl
    | _ => rfl
  · rw [look_hide]; exact hrv

/-- One operation that may come up. -/
theorem Come.next (hTT : TTOK P TT) (hC : ∀ f con, C f = some con → ConOK P G f con) (hgood : ∀ w, Frame c w → G c.g0 w) (hY : YOK P c Y) (hf : DrawFacts C ops)
    (hD : ∀ j, E C ops j = true → ∃ o stt, ops.toList[j]? = some o ∧ Abs st0 ops.toList ds (Sk C ops j) stt ∧ Data TT C Y ops st0.boxes.length st0.rows.length j o stt (ds j).1 (ds j).2)
    (hAn : Abs st0 ops.toList ds (E C ops) stn) (hfl : ∀ o ∈ flts C ops, flt TT C Y stn o) (hK : LateAt TT C Y ops 0 stn K) (hsh : Shut ops S) (h : Come TT C Y c ops st0 ds K S a w)
    {j : Nat} {o : Oper} (ho : ops.toList[j]? = some o) (hSj : S j = false) (hr : ∀ e ∈ o.after.toList, Region.binds .any e = true → S e.on = true)
    {Q : Exit → Act → World → Prop} {K' : Act → World → Prop} (hK' : ∀ a' w', Come TT C Y c ops st0 ds K (fun i => S i || i == j) a' w' → K' a' w') :
    if Region.wanted o (yielded ops a.tmps) then o.wpIn (W c.r) 0 P a w K' Q else K' (a.put o.dst undef) w := by
  have hjl : j < ops.toList.length := (List.getElem?_eq_some_iff.1 ho).1
  cases hEj : E C ops j with
  | false =>
    obtain ⟨m, hm, hL, st, e, hv, hfs, hh, ht⟩ := Come.turn hf hD hAn hfl hK (fun i hE hF => by
      refine ready_mask hsh ho hr i ?_
      cases hb : waits ops j i with
      | true => exact hb
      | false => rw [Fl_of hE hEj hjl hb] at hF; cases hF) h
    have hEall : ∀ i, E C ops i = true → Fl C ops i = false → S i = true := fun i hE hF => by
      refine ready_mask hsh ho hr i ?_
      cases hb : waits ops j i with
      | true => exact hb
      | false => rw [Fl_of hE hEj hjl hb] at hF; cases hF
    have hmj : m ≤ j := by
      rcases Nat.lt_or_ge j m with h | h
      · rw [(hL j hEj hjl).2 h] at hSj; cases hSj
      · exact h
    have hskip : LateAt TT C Y ops j st K := by
      have := late_skip (j - m) m (by omega) (fun i h1 h2 => by
        cases hEi : E C ops i with
        | true => rfl
        | false =>
          exfalso
          rcases hf.late j o ho hEj i (by omega) (by omega) with hb | ⟨hb, _⟩ | ⟨_, hb⟩
          · have := (hL i hEi (by omega)).1 (ready_mask hsh ho hr i hb); omega
          · rw [hEi] at hb; cases hb
          · omega) hv
      rwa [show m + (j - m) = j by omega] at this
    unfold LateAt at hskip
    rw [el_drop hjl, List.drop_eq_getElem_cons hjl, hEj] at hskip
    have hoj : ops.toList[j] = o := (List.getElem?_eq_some_iff.1 ho).2
    rw [hoj] at hskip
    have hhid : hid C ops (fun i => S i || i == j) = hid C ops S := by
      funext t
      rw [Bool.eq_iff_iff, hid_iff, hid_iff]
      constructor
      · rintro ⟨i, o', h1, h2, h3, h4⟩
        simp only [Bool.or_eq_false_iff] at h2
        exact ⟨i, o', h1, h2.1, h3, h4⟩
      · rintro ⟨i, o', h1, h2, h3, h4⟩
        refine ⟨i, o', h1, ?_, h3, h4⟩
        have : i ≠ j := fun hij => by subst hij; have := Fl_E h1; rw [hEj] at this; cases this
        simp [h2, this]
    have hL' : ∀ i, E C ops i = false → i < ops.toList.length → ((S i || i == j) = true ↔ i < j + 1) := by
      intro i hi hil
      simp only [Bool.or_eq_true, beq_iff_eq]
      constructor
      · rintro (h | h)
        · have := (hL i hi hil).1 h; omega
        · omega
      · intro h
        by_cases hij : i = j
        · exact .inr hij
        · left
          rcases hf.late j o ho hEj i hil hij with hb | ⟨hb, _⟩ | ⟨_, hb⟩
          · exact ready_mask hsh ho hr i hb
          · rw [hi] at hb; cases hb
          · omega
    have hE' : ∀ i, E C ops i = true → Fl C ops i = false → (S i || i == j) = true := fun i h1 h2 => by rw [hEall i h1 h2]; rfl
    cases hfls : flts C ops with
    | nil =>
      have hnone : ∀ S t, hid C ops S t = false := by
        intro S t
        rw [hid_false]
        intro i o' h1 _ h3
        have := flts_mem h3 h1
        rw [hfls] at this; cases this
      rw [hide_none (hnone S)] at hh ht
      obtain ⟨ts, bs, rs, ys, pn⟩ := st
      rw [hfls] at hskip
      change lenK bs 0 (fun nb => lenK rs 0 fun nr => vcOp TT C Y false nb nr ops o ⟨ts, bs, rs, ys, pn⟩ fun st' => vcLate TT C Y ops [] (ops.toList.drop (j + 1)) ((elOf C ops.toList).drop (j + 1)) st' K) at hskip
      simp only [lenK_eq, Nat.zero_add] at hskip
      refine vcOp_sound hTT hC hgood hY hh ht (fun j h1 _ => getK_length none bs _ h1) (fun j h1 _ => getK_length none rs _ h1) hskip (fun st' e' a' w' h1 h2 h3 => hK' a' w' (.behind (j + 1) (by omega) hL' hE' st' e' (by unfold LateAt; rw [hfls]; exact h3) (by rw [hfls]; intro o h; cases h) (by rw [hide_none (hnone _)]; exact h1) (by rw [hide_none (hnone _)]; exact h2)))
    | cons f fl =>
      obtain ⟨ts, bs, rs, ys, pn⟩ := st
      rw [hfls] at hskip
      change (match o.guard with
            | none => lenK bs 0 fun nb => lenK rs 0 fun nr => vcOp TT C Y false nb nr ops o ⟨ts, bs, rs, ys, pn⟩ fun st' => fltL TT C Y (f :: fl) st' (vcLate TT C Y ops (f :: fl) (ops.toList.drop (j + 1)) ((elOf C ops.toList).drop (j + 1)) st' K)
            | some _ => False) at hskip
      split at hskip
      · rename_i hg
        simp only [lenK_eq, Nat.zero_add] at hskip
        rw [← hfls] at hskip
        obtain ⟨pre, av, eff, h1, h2, h3⟩ := (vcOp_none hg).1 hskip
        rw [fltL_iff] at h3
        have hlook : ∀ t, t ∈ o.looksAt ops → hid C ops S t = false := by
          intro t htl
          rw [hid_false]
          intro i o' hF hSi ho' hd
          have hne : i ≠ j := fun hij => by subst hij; have := Fl_E hF; rw [hEj] at this; cases this
          rcases hf.late j o ho hEj i (E_lt (Fl_E hF)) hne with hb | ⟨_, hb⟩ | ⟨hb, _⟩
          · rw [ready_mask hsh ho hr i hb] at hSi; cases hSi
          · exact (hb o' t ho' hd).2 htl
          · rw [Fl_E hF] at hb; cases hb
        have hdst : ∀ d, o.dst = some d → hid C ops S d = false := by
          intro d hd
          rw [hid_false]
          intro i o' hF hSi ho' hd'
          have hne : i ≠ j := fun hij => by subst hij; have := Fl_E hF; rw [hEj] at this; cases this
          rcases hf.late j o ho hEj i (E_lt (Fl_E hF)) hne with hb | ⟨_, hb⟩ | ⟨hb, _⟩
          · rw [ready_mask hsh ho hr i hb] at hSi; cases hSi
          · exact (hb o' d ho' hd').1 hd
          · rw [Fl_E hF] at hb; cases hb
        have htr := tr_hide (U := hid C ops S) (fun t ht => hlook t (looks_operand ht)) h1
        have hstep : stepG bs.length rs.length o (hide (hid C ops S) ⟨ts, bs, rs, ys, pn⟩) av eff = hide (hid C ops S) (stepG bs.length rs.length o ⟨ts, bs, rs, ys, pn⟩ av eff) := by
          unfold stepG
          rw [apply_hide]
          cases hod : o.dst with
          | none => rfl
          | some d => simp only [hide]; rw [anyAt_set _ _ _ _ _ (by rw [Nat.zero_add]; exact hdst d hod)]
        have hvc : vcOp TT C Y false bs.length rs.length ops o (hide (hid C ops S) ⟨ts, bs, rs, ys, pn⟩) (fun s => s = hide (hid C ops S) (stepG bs.length rs.length o ⟨ts, bs, rs, ys, pn⟩ av eff)) :=
          (vcOp_none hg).2 ⟨pre, av, eff, htr, h2, hstep⟩
        refine vcOp_sound hTT hC hgood hY hh ht (fun j h1 _ => getK_length none bs _ h1) (fun j h1 _ => getK_length none rs _ h1) hvc (fun st' e' a' w' h4 h5 h6 => hK' a' w' (.behind (j + 1) (by omega) hL' hE' (stepG bs.length rs.length o ⟨ts, bs, rs, ys, pn⟩ av eff) e' h3.2 h3.1 (by rw [hhid, ← h6]; exact h4) (by rw [hhid, ← h6]; exact h5)))
      · exact hskip.elim
  | true =>
    cases h with
    | behind m hm hL hE st e hv hfs hh ht =>
      have hF : Fl C ops j = true := by
        cases hF : Fl C ops j with
        | true => rfl
        | false => rw [hE j hEj hF] at hSj; cases hSj
      obtain ⟨hg, _, _, hlk⟩ := hf.flo j o ho hF
      have hmem : o ∈ flts C ops := flts_mem ho hF
      obtain ⟨d, hd, htr0⟩ := flt_iff.1 (hfs o hmem)
      have hlook : ∀ t, t ∈ o.looksAt ops → hid C ops S t = false := by
        intro t htl
        rw [hid_false]
        intro i o' hFi hSi ho' hd'
        rcases hlk i o' t (Fl_E hFi) ho' hd' with hb | ⟨_, hb⟩
        · exact hb htl
        · rw [ready_mask hsh ho hr i hb] at hSi; cases hSi
      have htr := tr_hide (U := hid C ops S) (fun t ht => hlook t (looks_operand ht)) htr0
      have hU : ∀ t, hid C ops (fun i => S i || i == j) t = (hid C ops S t && t != 0 + d) := by
        intro t
        rw [Nat.zero_add, Bool.eq_iff_iff, Bool.and_eq_true, hid_iff, hid_iff, bne_iff_ne]
        constructor
        · rintro ⟨i, o', h1, h2, h3, h4⟩
          simp only [Bool.or_eq_false_iff, beq_eq_false_iff_ne] at h2
          refine ⟨⟨i, o', h1, h2.1, h3, h4⟩, fun htd => ?_⟩
          subst htd
          exact (hf.pre j o ho hEj i o' t (Fl_E h1) h3 h4 h2.2).1 hd
        · rintro ⟨⟨i, o', h1, h2, h3, h4⟩, hne⟩
          refine ⟨i, o', h1, ?_, h3, h4⟩
          have : i ≠ j := fun hij => by
            subst hij
            rw [ho] at h3; cases h3
            rw [hd] at h4; cases h4; exact hne rfl
          simp [h2, this]
      have hstep : stepG st.boxes.length st.rows.length o (hide (hid C ops S) st) (getK .any st.tmps d) .none = hide (hid C ops (fun i => S i || i == j)) st := by
        unfold stepG
        rw [hd]
        obtain ⟨ts, bs, rs, ys, pn⟩ := st
        simp only [Eff.apply, hide]
        rw [anyAt_fill _ 0 d hU]
      have hvc : vcOp TT C Y false st.boxes.length st.rows.length ops o (hide (hid C ops S) st) (fun s => s = hide (hid C ops (fun i => S i || i == j)) st) :=
        (vcOp_none hg).2 ⟨[], _, .none, htr, by simp, hstep⟩
      refine vcOp_sound hTT hC hgood hY hh ht (fun j h1 _ => getK_length none st.boxes _ h1) (fun j h1 _ => getK_length none st.rows _ h1) hvc (fun st' e' a' w' h4 h5 h6 => hK' a' w' (.behind m hm (fun i hi hil => ?_) (fun i h1 h2 => by rw [hE i h1 h2]; rfl) st e' hv hfs (by rw [← h6]; exact h4) (by rw [← h6]; exact h5)))
      have : i ≠ j := fun hij => by subst hij; rw [hEj] at hi; cases hi
      simp only [Bool.or_eq_true, beq_iff_eq, this, or_false]
      exact hL i hi hil
    | ahead hS st e hA hh ht =>
      obtain ⟨o', stt, ho', hAt, hdat⟩ := hD j hEj
      rw [ho] at ho'; cases ho'
      refine step_any (nb := st0.boxes.length) (nr := st0.rows.length) (av := (ds j).1) (eff := (ds j).2) hTT hC hgood hY hdat (fun t htl => abs_tmp hA hAt (fun i oi hoi hd => ?_)) (hA.ys.trans hAt.ys.symm) (fun id b b' h1 h2 => abs_box hAt hA id b b' h1 h2) (fun id b b' h1 h2 => abs_row hAt hA id b b' h1 h2) hh ht ?_ (fun i h1 h2 => ?_) (fun e' a' w' h1 h2 => hK' a' w' (.ahead (fun i hi => ?_) _ e' (hA.step hSj ho (fun i oi d hSi hne hoi hd => (hf.pre j o ho hEj i oi d (hS i hSi) hoi hd hne).1) hdat.adds) h1 h2))
      · unfold Sk
        cases hEi : E C ops i with
        | false =>
          cases hSi : S i with
          | false => rfl
          | true => have := hS i hSi; rw [hEi] at this; cases this
        | true =>
        rw [Bool.true_and]
        by_cases hij : i = j
        · subst hij; rw [hSj]; simp
        · rcases (hf.pre j o ho hEj i oi t hEi hoi hd hij).2 with h1 | ⟨h1, h2⟩ | ⟨h1, h2⟩
          · exact absurd htl h1
          · rw [ready_mask hsh ho hr i h2]; simp [h1]
          · have : S i = false := by
              cases hSi : S i with
              | false => rfl
              | true => rw [shut_mask hsh i hSi j h2] at hSj; cases hSj
            rw [this]
            have : ¬ i < j := by omega
            simp [this]
      · rw [hA.boxNew j, if_neg (by simp [hSj])]
      · obtain ⟨k, rfl⟩ : ∃ k, i = st0.rows.length + 4 * j + k := ⟨i - (st0.rows.length + 4 * j), by omega⟩
        rw [hA.rowNew j k (by omega), if_neg (by simp [hSj])]
      · simp only [Bool.or_eq_true, beq_iff_eq] at hi
        rcases hi with hi | rfl
        · exact hS i hi
        · exact hEj
end

theorem draw_ok (hTT : TTOK P TT) (hC : ∀ f con, C f = some con → ConOK P G f con) (hgood : ∀ w, Frame c w → G c.g0 w) (hY : YOK P c Y) (hm : P.follows .mixedOrders = true) : DrawOK P TT C Y c := by
  intro id ops st0 K e a w Q hok hv hh ht hQ
  have hf := drawOk_facts hok
  obtain ⟨ts, bs, rs, ys, pn⟩ := st0
  simp only [vcDraw, lenK_eq, Nat.zero_add, boolLK_eq, fltsK_eq] at hv
  have hS0 : Sk C ops 0 = fun _ => false := by funext i; unfold Sk; simp
  have hA0 : Abs ⟨ts, bs, rs, ys, pn⟩ ops.toList (fun _ => (.any, .none)) (Sk C ops 0) ⟨ts, bs, rs, ys, pn⟩ := by
    rw [hS0]
    refine ⟨rfl, rfl, rfl, fun i t o h => by simp at h, fun t _ => rfl, fun id _ => rfl, fun i => ?_, fun id _ => rfl, fun i k _ => ?_⟩
    · rw [if_neg (by simp), getK_length _ _ _ (by simp)]
    · rw [if_neg (by simp), getK_length _ _ _ (by simp; omega)]
  obtain ⟨ds, stn, hD, hAn, hK⟩ := vcPre_chain (TT := TT) (C := C) (Y := Y) (st0 := ⟨ts, bs, rs, ys, pn⟩) hf 0 _ _ ⟨ts, bs, rs, ys, pn⟩ (fun _ => (.any, .none)) (by simp) (by simp) hA0 (fun j hj => absurd hj (Nat.not_lt_zero _)) hv
  rw [fltL_iff] at hK
  obtain ⟨hfl, hK⟩ := hK
  have hK : LateAt TT C Y ops 0 stn K := hK
  refine wpIn_region_any hm ?_
  -- what is not listed yet
  have main : ∀ (fuel : Nat) (listed : Array Bool) (a : Act) (w : World), listed.size = ops.size → Shut ops (fun i => listed.getD i false) → Come TT C Y c ops ⟨ts, bs, rs, ys, pn⟩ ds K (fun i => listed.getD i false) a w →
      ((List.range ops.size).filter (fun i => !listed.getD i false)).length ≤ fuel → wpAnyIn (W c.r) 0 P .any ops Q fuel listed a w := by
    intro fuel
    have hdone : ∀ (listed : Array Bool) (a : Act) (w : World), listed.size = ops.size → Come TT C Y c ops ⟨ts, bs, rs, ys, pn⟩ ds K (fun i => listed.getD i false) a w → Region.ready .any ops listed = [] → Q .normal a w := by
      intro listed a w hsz hcome hr
      have hall : ∀ i, i < ops.toList.length → listed.getD i false = true := by
        intro i
        induction i using Nat.strongRecOn with
        | ind i ih =>
          intro hi
          cases hl : listed.getD i false with
          | true => rfl
          | false =>
            exfalso
            have hmem : i ∈ Region.ready .any ops listed := by
              rw [mem_ready]
              have hi' : i < listed.size := by rw [hsz]; simpa using hi
              refine ⟨?_, ops.toList[i], by rw [← Array.getElem?_toList]; exact List.getElem?_eq_getElem hi, fun e he hb => ?_⟩
              · simpa [hi'] using hl
              · have := hf.edge i _ (List.getElem?_eq_getElem hi) e (by simpa using he) hb
                exact ih e.on this (by omega)
            rw [hr] at hmem; cases hmem
      obtain ⟨m, h1, h2, st, e, h3, h4, h5, h6⟩ := Come.turn hf hD hAn hfl hK (fun i hE _ => hall i (E_lt hE)) hcome
      have hnone : ∀ t, hid C ops (fun i => listed.getD i false) t = false := by
        intro t
        rw [hid_false]
        intro i o' hF hSi
        rw [hall i (E_lt (Fl_E hF))] at hSi; cases hSi
      rw [hide_none hnone] at h5 h6
      have h7 := late_skip (ops.toList.length - m) m (by omega) (fun i h8 h9 => by
        cases hEi : E C ops i with
        | true => rfl
        | false => have := (h2 i hEi (by omega)).1 (hall i (by omega)); omega) h3
      exact hQ st e a w h5 h6 (late_end (by omega) h7)
    induction fuel with
    | zero =>
      intro listed a w hsz hsh hcome hlen
      have hnil : Region.ready .any ops listed = [] := by
        rw [List.eq_nil_iff_forall_not_mem]
        intro i hi
        obtain ⟨h1, o, h2, _⟩ := mem_ready.1 hi
        have hi' : i < ops.size := (Array.getElem?_eq_some_iff.1 h2).1
        have hi2 : i < listed.size := by rw [hsz]; exact hi'
        have : i ∈ (List.range ops.size).filter (fun i => !listed.getD i false) := by
          rw [List.mem_filter, List.mem_range]
          refine ⟨hi', ?_⟩
          simpa [hi2] using h1
        rw [List.eq_nil_of_length_eq_zero (Nat.le_zero.1 hlen)] at this
        cases this
      exact ⟨hnil, hdone listed a w hsz hcome hnil⟩
    | succ fuel ih =>
      intro listed a w hsz hsh hcome hlen
      refine ⟨hdone listed a w hsz hcome, fun j hj => ?_⟩
      obtain ⟨h1, o, h2, h3⟩ := mem_ready.1 hj
      have hj' : j < ops.size := (Array.getElem?_eq_some_iff.1 h2).1
      have hj2 : j < listed.size := by rw [hsz]; exact hj'
      have hSj : listed.getD j false = false := by simpa [hj2] using h1
      have ho : ops.toList[j]? = some o := by simpa using h2
      have hset : (fun i => (listed.setIfInBounds j true).getD i false) = fun i => listed.getD i false || i == j := by
        funext i
        by_cases hij : i = j
        · subst hij; simp [hj2]
        · rw [getD_set_ne false (Ne.symm hij)]; simp [hij]
      refine wpOp_of (fun _ => trivial) h2 (Come.next hTT hC hgood hY hf hD hAn hfl hK hsh hcome ho hSj (fun e he hb => h3 e (by simpa using he) hb) (fun a' w' hc => ih _ a' w' (by simpa using hsz) ?_ (by rw [hset]; exact hc) ?_))
      · rw [hset]
        intro i oi hi hoi e he hb
        simp only [Bool.or_eq_true, beq_iff_eq] at hi ⊢
        rcases hi with hi | rfl
        · exact .inl (hsh i oi hi hoi e he hb)
        · rw [ho] at hoi; cases hoi
          exact .inl (h3 e (by simpa using he) hb)
      · have hfl : (List.range ops.size).filter (fun i => !(listed.setIfInBounds j true).getD i false) = ((List.range ops.size).filter (fun i => !listed.getD i false)).filter (fun i => i != j) := by
          rw [List.filter_filter]
          refine List.filter_congr fun i _ => ?_
          have := congrFun hset i
          rw [this]
          cases listed.getD i false <;> cases h : i == j <;> simp_all
        rw [hfl]
        have hlt : (((List.range ops.size).filter (fun i => !listed.getD i false)).filter (fun i => i != j)).length < ((List.range ops.size).filter (fun i => !listed.getD i false)).length := by
          rw [List.length_filter_lt_length_iff_exists]
          exact ⟨j, List.mem_filter.2 ⟨List.mem_range.2 hj', by rw [hSj]; rfl⟩, by simp⟩
        omega
  have hS1 : (fun i => (Array.replicate ops.size false).getD i false) = fun _ => false := by
    funext i
    rw [Array.getD_eq_getD_getElem?]
    cases h : (Array.replicate ops.size false)[i]? with
    | none => rfl
    | some b => 
      obtain ⟨h1, h2⟩ := Array.getElem?_eq_some_iff.1 h
      simp at h2; simp [← h2]
  refine main ops.size _ a _ (by simp) (by rw [hS1]; intro j o h; cases h) ?_ (by have := List.length_filter_le (fun i => !(Array.replicate ops.size false).getD i false) (List.range ops.size); simpa using this)
  rw [hS1]
  refine Come.ahead (fun i h => by cases h) ⟨ts, bs, rs, ys, pn⟩ e ?_ (HeapOK_drawn hh _) ht
  refine ⟨rfl, rfl, rfl, fun i t o h => (by cases h), fun t _ => rfl, fun id _ => rfl, fun i => ?_, fun id _ => rfl, fun i k _ => ?_⟩
  · rw [if_neg (by simp), getK_length _ _ _ (by simp)]
  · rw [if_neg (by simp), getK_length _ _ _ (by simp; omega)]
end
end Go.X
