/-
  Parts of the proof.
-/
import Derived.Test.YtebdmniefanenaaGreatDoorA0
import Derived.OrdersIn

set_option linter.unusedSimpArgs false
set_option linter.unusedVariables false

namespace Go.X
open Go.RowKit

mutual
theorem R_tmps {ts ts' : List AV} {bs : List (Option Box)} {rs : List (Option Row)} {ys ys' : List (List AV)} {pn pn' : List AV} {e : Env} (v : AV) (x : Value) (h : R ⟨ts, bs, rs, ys, pn⟩ e v x) : R ⟨ts', bs, rs, ys', pn'⟩ e v x := by
  match v with
  | .i .. | .b .. | .s .. | .nilp | .nilf | .nili | .nils | .mp _ | .pt _ | .box .. | .row _ | .view .. | .arrp _ | .elt .. | .yv | .any => exact h
  | .fn f l => obtain ⟨vs, h1, h2⟩ := h; exact ⟨vs, h1, RL_tmps l vs h2⟩
  | .agg l => obtain ⟨vs, h1, h2⟩ := h; exact ⟨vs, h1, RL_tmps l vs h2⟩
  | .tup l => obtain ⟨vs, h1, h2⟩ := h; exact ⟨vs, h1, RL_tmps l vs h2⟩
  | .opt g v => exact ⟨fun hg => R_tmps v x (h.1 hg), h.2⟩
  | .ifc T v => obtain ⟨y, h1, h2⟩ := h; exact ⟨y, h1, R_tmps v y h2⟩
theorem RL_tmps {ts ts' : List AV} {bs : List (Option Box)} {rs : List (Option Row)} {ys ys' : List (List AV)} {pn pn' : List AV} {e : Env} (l : List AV) (vs : List Value) (h : RL ⟨ts, bs, rs, ys, pn⟩ e l vs) : RL ⟨ts', bs, rs, ys', pn'⟩ e l vs := by
  match l with
  | [] => exact h
  | x :: l => obtain ⟨v, vs', h1, h2, h3⟩ := h; exact ⟨v, vs', h1, R_tmps x v h2, RL_tmps l vs' h3⟩
end

theorem HeapOK_tmps {c : Ctx} {e : Env} {ts ts' : List AV} {bs : List (Option Box)} {rs : List (Option Row)} {ys : List (List AV)} {pn : List AV} {w : World} (h : HeapOK c e ⟨ts, bs, rs, ys, pn⟩ w) : HeapOK c e ⟨ts', bs, rs, ys, pn⟩ w :=
  ⟨h.frame, fun id bx hb => by obtain ⟨⟨vs, h1, h2, h3⟩, h4⟩ := h.box id bx hb; exact ⟨⟨vs, h1, RL_tmps _ _ h2, h3⟩, h4⟩, h.row, h.injB, h.injR, h.apart, h.out, h.defd, h.defm, h.mwr, h.yl, h.nd, RL_tmps _ _ h.pin⟩

theorem listK_eq {α : Type} (l : List α) (k : List α → Prop) : listK l k = k l := by
  induction l generalizing k with
  | nil => rfl
  | cons x l ih => simp [listK, ih]
theorem lenK_eq {α : Type} (l : List α) (n : Nat) (k : Nat → Prop) : lenK l n k = k (n + l.length) := by
  induction l generalizing n with
  | nil => rfl
  | cons x l ih => simp only [lenK, ih, List.length_cons]; congr 1; omega
theorem cellK_eq (v : AV) (k : AV → Prop) : cellK v k = k v := by
  cases v <;> simp [cellK, listK_eq]
theorem cellL_eq (l : List AV) (k : List AV → Prop) : cellL l k = k l := by
  induction l generalizing k with
  | nil => rfl
  | cons x l ih => simp [cellL, cellK_eq, ih]
theorem avK_eq (v : AV) (k : AV → Prop) : avK v k = k v := by
  cases v <;> simp [avK, cellL_eq]
theorem stK_eq (st : St) (k : St → Prop) : stK st k = k st := by
  cases st; simp [stK, listK_eq]
theorem avL_eq (l : List AV) (k : List AV → Prop) : avL l k = k l := by
  induction l generalizing k with
  | nil => rfl
  | cons x l ih => simp [avL, avK_eq, ih]
theorem boolK_eq (b : Bool) (k : Bool → Prop) : boolK b k = k b := by cases b <;> rfl
theorem boxK_eq (b : Option Box) (k : Option Box → Prop) : boxK b k = k b := by
  cases b with
  | none => rfl
  | some b => obtain ⟨T, cells, own⟩ := b; simp [boxK, avL_eq, boolK_eq]
theorem rowK_eq (b : Option Row) (k : Option Row → Prop) : rowK b k = k b := by
  cases b with
  | none => rfl
  | some b => obtain ⟨T, e, l, own⟩ := b; simp [rowK, boolK_eq]
theorem boxL_eq (l : List (Option Box)) (k : List (Option Box) → Prop) : boxL l k = k l := by
  induction l generalizing k with
  | nil => rfl
  | cons x l ih => simp [boxL, boxK_eq, ih]
theorem rowL_eq (l : List (Option Row)) (k : List (Option Row) → Prop) : rowL l k = k l := by
  induction l generalizing k with
  | nil => rfl
  | cons x l ih => simp [rowL, rowK_eq, ih]
theorem stF_eq (st : St) (k : St → Prop) : stF st k = k st := by
  cases st; simp [stF, listK_eq, avL_eq, boxL_eq, rowL_eq]
theorem effK_eq (eff : Eff) (k : Eff → Prop) : effK eff k = k eff := by
  cases eff <;> simp [effK, avL_eq]
theorem conjP_iff (ps : List Prop) (K : Prop) : conjP ps K ↔ (∀ p ∈ ps, p) ∧ K := by
  induction ps with
  | nil => simp [conjP]
  | cons p ps ih =>
    show (p ∧ conjP ps K) ↔ _
    rw [ih]
    simp only [List.mem_cons, forall_eq_or_imp, and_assoc]

theorem atomOf_R {st : St} {e : Env} (v : Value) : R st e (atomOf v) v := by
  unfold atomOf
  split <;> first | rfl | trivial
theorem mapK_atom_R {st : St} {e : Env} (l : List Value) : RL st e (mapK atomOf l) l := by
  induction l with
  | nil => rfl
  | cons x l ih => exact ⟨x, l, rfl, atomOf_R x, ih⟩
theorem ofVal_R {st : St} {e : Env} (v : Value) : R st e (ofVal v) v := by
  unfold ofVal
  split
  · exact ⟨_, by simp, mapK_atom_R _⟩
  · split
    · rename_i cs h; exact ⟨[], by congr 1; exact Array.ext' (by simpa using h), rfl⟩
    · trivial
  · exact atomOf_R _

section
variable {P : Program} {G : Nat → World → Prop} {TT : TypeId → Option TD} {C : Nat → Option Con} {Y : List (List AV) → List AV → Option (Prop × Bool)} {c : Ctx} {st : St} {e : Env} {a : Act} {w : World} {o : Oper} {ops : Array Oper}

theorem opnd_R (h : TmpsOK c st e a) (x : Operand) : R st e (opnd st.tmps x) (a.eval x) := by
  cases x with
  | tmp t =>
    have := RL_get h.1 t
    simp only [opnd, Act.eval]
    simpa [Array.getD_eq_getD_getElem?] using this
  | const v => exact ofVal_R v
  | func f => exact ⟨[], rfl, rfl⟩
  | global g => trivial

theorem put_ok {st' : St} {e' : Env} {ts : List AV} {av : AV} {v : Value} {d : Tmp} (h : RL st' e' ts a.tmps.toList) (hd : DfOK c e'.D a.defers) (hv : R st' e' av v) : TmpsOK c ⟨ts.set d av, st'.boxes, st'.rows, st'.ys, st'.pin⟩ e' (a.put (some d) v) := by
  refine ⟨?_, hd⟩
  have := RL_set h d hv
  simp only [Act.put, Array.toList_setIfInBounds]
  cases st'
  exact RL_tmps _ _ this

theorem apply_tmps {fb fr : Nat} {eff : Eff} : (eff.apply fb fr st).tmps = mapK (sweep eff.kills) st.tmps := by
  cases eff with
  | call bs rs k sr => cases k <;> simp [Eff.apply, Eff.kills, mapK_sweep_nil]
  | _ => simp [Eff.apply, Eff.kills, mapK_sweep_nil]

theorem guardOf_spec {j : Nat} {want g : Bool} (h : TmpsOK c st e a) (ho : o.guard = some (j, want)) (hg : guardOf ops st.tmps j want = some g) : Region.wanted o (yielded ops a.tmps) = g := by
  unfold guardOf at hg
  split at hg
  · rename_i oj hoj
    split at hg
    · rename_i t ht
      have hR := RL_get h.1 t
      have hoj' : ops[j]? = some oj := by simpa using hoj
      have hy : yielded ops a.tmps j = match a.tmps[t]? with | some (.bool b) => some b | _ => none := by
        simp only [yielded, hoj', Option.bind_some, ht]
        rfl
      simp only [Region.wanted, ho]
      have hget : a.tmps.toList[t]? = a.tmps[t]? := by simp
      rw [hget] at hR
      split at hg
      · rename_i x hx
        rw [hx] at hR
        cases hq : a.tmps[t]? with
        | none => rw [hq] at hR; simp only [Option.getD_none, R] at hR; cases hR
        | some v =>
          rw [hq] at hR hy
          simp only [Option.getD_some, R] at hR
          subst hR
          rw [hy]
          cases want <;> cases x <;> simp at hg <;> subst hg <;> rfl
      · rename_i g1 x hx
        rw [hx] at hR
        cases g1
        · have h2 := hR.2 rfl
          have h3 : yielded ops a.tmps j = none := by
            rw [hy]
            cases hq : a.tmps[t]? with
            | none => rfl
            | some v => rw [hq] at h2; simp only [Option.getD_some] at h2; subst h2; rfl
          rw [h3]
          cases want <;> simp at hg <;> subst hg <;> rfl
        · have h2 := hR.1 rfl
          cases hq : a.tmps[t]? with
          | none => rw [hq] at h2; simp only [Option.getD_none, R] at h2; cases h2
          | some v =>
            rw [hq] at h2 hy
            simp only [Option.getD_some, R] at h2
            subst h2
            rw [hy]
            cases want <;> cases x <;> simp at hg <;> subst hg <;> rfl
      · cases hg
    · cases hg
  · cases hg

theorem optOf_spec {ts : List AV} {g : Bool} {l : List Operand} (h : ∀ p ∈ optOf ts g l, p) : ∀ x ∈ l, ∀ p ∈ (unopt g (opnd ts x)).1, p := by
  induction l with
  | nil => intro x hx; cases hx
  | cons y l ih =>
    simp only [optOf, appendList_eq, List.mem_append] at h
    intro x hx
    rcases List.mem_cons.1 hx with rfl | hx
    · exact fun p hp => h p (.inl hp)
    · exact ih (fun p hp => h p (.inr hp)) x hx

theorem unopt_R {v : AV} {x : Value} {g : Bool} (h : R st e v x) (hg : g = true) (hp : ∀ p ∈ (unopt g v).1, p) : R st e (unopt g v).2 x := by
  unfold unopt at *
  split at hp
  · rename_i g' v'
    have : g' = true := hp _ (List.mem_singleton.2 rfl) hg
    exact h.1 this
  · rename_i hne
    simpa using h

theorem optOfN_spec {op : Op} {ts : List AV} {g : Bool} {l : List Operand} (h : ∀ p ∈ optOfN op ts g l, p) : ∀ x ∈ l, ∀ p ∈ (unoptN (needs op x) g (opnd ts x)).1, p := by
  induction l with
  | nil => intro x hx; cases hx
  | cons y l ih =>
    simp only [optOfN, appendList_eq, List.mem_append] at h
    intro x hx
    rcases List.mem_cons.1 hx with rfl | hx
    · exact fun p hp => h p (.inl hp)
    · exact ih (fun p hp => h p (.inr hp)) x hx
theorem unoptN_R {n : Bool} {v : AV} {x : Value} {g : Bool} (h : R st e v x) (hg : g = true) (hp : ∀ p ∈ (unoptN n g v).1, p) : R st e (unoptN n g v).2 x := by
  cases n with
  | false => exact h
  | true => exact unopt_R h hg hp

theorem impl_spec {g : Bool} {ps : List Prop} (h : ∀ p ∈ impl g ps, p) (hg : g = true) : ∀ p ∈ ps, p := by
  induction ps with
  | nil => intro p hp; cases hp
  | cons q ps ih =>
    simp only [impl, List.mem_cons, forall_eq_or_imp] at h
    intro p hp
    rcases List.mem_cons.1 hp with rfl | hp
    · exact h.1 hg
    · exact ih h.2 p hp

theorem isNone_eq {eff : Eff} (h : isNone eff = true) : eff = .none := by cases eff <;> simp [isNone] at h; rfl
theorem vcOp_sound {add : Bool} {fb fr : Nat} {K : St → Prop} (hTT : TTOK P TT) (hC : ∀ f con, C f = some con → ConOK P G f con) (hgood : ∀ w, Frame c w → G c.g0 w) (hY : YOK P c Y)
    (hh : HeapOK c e st w) (ht : TmpsOK c st e a) (hfb : ∀ j, fb ≤ j → (add = true → j < fb + 1) → getK none st.boxes j = none) (hfr : ∀ j, fr ≤ j → (add = true → j < fr + 4) → getK none st.rows j = none) (hv : vcOp TT C Y add fb fr ops o st K)
    {K' : Act → World → Prop} {Q : Exit → Act → World → Prop} (hK : ∀ st' e' a' w', HeapOK c e' st' w' → TmpsOK c st' e' a' → K st' → K' a' w') :
    if Region.wanted o (yielded ops a.tmps) then o.wpIn (W c.r) 0 P a w K' Q else K' (a.put o.dst undef) w := by
  obtain ⟨ts, bs, rs, ys, pn⟩ := st
  unfold vcOp at hv
  simp only at hv
  have step : ∀ {A : Operand → AV} {pre : List Prop} {av : AV} {eff : Eff} (av' : AV), (∀ y ∈ o.op.operands.toList, R ⟨ts, bs, rs, ys, pn⟩ e (A y) (a.eval y)) → tr TT C Y A (look ⟨ts, bs, rs, ys, pn⟩) (resolve ⟨ts, bs, rs, ys, pn⟩) ys fb fr o.op = some ⟨pre, av, eff⟩ → (∀ p ∈ pre, p) →
      (add = true → eff.adds = true) → (∀ st' e' v, R st' e' av v → R st' e' av' v) → (match o.dst with
          | some d => (match eff.apply fb fr ⟨ts, bs, rs, ys, pn⟩ with | ⟨ts', bs', rs', ys', pn'⟩ => setK ts' d av' fun ts' => K ⟨ts', bs', rs', ys', pn'⟩)
          | none => K (eff.apply fb fr ⟨ts, bs, rs, ys, pn⟩)) → o.wpIn (W c.r) 0 P a w K' Q := by
    intro A pre av eff av' hA htr hp hadd hav hv
    refine tr_sound hTT hC hgood hY hh hA htr hp (fun j h1 h2 => hfb j h1 (fun ha => ?_)) (fun j h1 h2 => hfr j h1 (fun ha => ?_)) K' Q (fun v w' e' h1 h2 h3 => ?_)
    · have := hadd ha
      cases eff with
      | call bs' rs' k sr =>
        cases bs' with
        | nil => simp only [Eff.newsB, List.length_nil] at h2; omega
        | cons _ _ => simp [Eff.adds] at this
      | _ => simp only [Eff.newsB] at h2; omega
    · have := hadd ha
      cases eff with
      | call bs' rs' k sr =>
        cases bs' <;> cases k <;> cases sr <;> simp [Eff.adds] at this
        simp only [Eff.news] at h2; omega
      | _ => simp only [Eff.news] at h2; omega
    · have hts : RL (eff.apply fb fr ⟨ts, bs, rs, ys, pn⟩) e' (eff.apply fb fr ⟨ts, bs, rs, ys, pn⟩).tmps a.tmps.toList := by
        rw [apply_tmps]; exact RL_mono h2.keep ht.1
      have hdf : DfOK c e'.D a.defers := by rw [h2.D]; exact ht.2
      generalize eff.apply fb fr ⟨ts, bs, rs, ys, pn⟩ = st' at *
      obtain ⟨ts', bs', rs', ys', pn'⟩ := st'
      cases hd : o.dst with
      | none =>
        rw [hd] at hv
        exact hK _ e' _ w' h1 ⟨hts, hdf⟩ hv
      | some d =>
        rw [hd] at hv
        simp only [setK_eq] at hv
        exact hK _ e' _ w' (HeapOK_tmps h1) (put_ok hts hdf (hav _ _ _ h3)) hv
  split at hv
  · rename_i hg
    have hw : Region.wanted o (yielded ops a.tmps) = true := by simp [Region.wanted, hg]
    rw [if_pos hw]
    split at hv
    · rename_i pre av eff htr
      split at hv
      · rename_i hadd
        rw [conjP_iff, avK_eq, effK_eq, stK_eq] at hv
        exact step av (fun y _ => opnd_R ht y) htr hv.1 (fun ha => by subst ha; simpa using hadd) (fun _ _ _ h => h) hv.2
      · exact hv.elim
    · exact hv.elim
  · rename_i j want hg
    split at hv
    · rename_i g hgo
      have hw := guardOf_spec (o := o) ht hg hgo
      split at hv
      · have hgf : g = false := by
          cases hgv : g with
          | false => rfl
          | true => exact (hv.1 hgv).elim
        have hv2 := hv.2
        rw [hw, hgf, if_neg (by simp)]
        cases hd : o.dst with
        | none => rw [hd] at hv2; exact hK _ e _ w hh ht hv2
        | some d =>
          rw [hd] at hv2
          simp only [setK_eq] at hv2
          exact hK _ e _ w (HeapOK_tmps hh) (put_ok (st' := ⟨ts, bs, rs, ys, pn⟩) (av := .opt false .any) ht.1 ht.2 ⟨fun h => (by cases h), fun _ => rfl⟩) hv2
      split at hv
      · rename_i pre av eff htr
        split at hv
        · rename_i hne
          obtain rfl := isNone_eq hne
          rw [conjP_iff, conjP_iff, avK_eq] at hv
          obtain ⟨hp1, hp2, hv⟩ := hv
          rw [hw]
          cases hgv : g with
          | true =>
            rw [if_pos rfl]
            refine step (.opt g av) (fun y hy => unoptN_R (g := g) (opnd_R ht y) hgv (optOfN_spec hp1 y hy)) htr (impl_spec hp2 hgv) (fun _ => rfl) (fun _ _ _ h => ⟨fun _ => h, fun h => (by rw [hgv] at h; cases h)⟩) ?_
            exact hv
          | false =>
            rw [if_neg (by simp)]
            cases hd : o.dst with
            | none => rw [hd] at hv; exact hK _ e _ w hh ht hv
            | some d =>
              rw [hd] at hv
              simp only [setK_eq] at hv
              exact hK _ e _ w (HeapOK_tmps hh) (put_ok (st' := ⟨ts, bs, rs, ys, pn⟩) (av := .opt g av) ht.1 ht.2 ⟨fun h => (by rw [hgv] at h; cases h), fun _ => rfl⟩) hv
        · split at hv
          · exact hv.elim
          · rename_i hadd
            rw [hw]
            cases hgv : g with
            | true =>
              rw [if_pos rfl]
              have hv1 := hv.1 hgv
              rw [conjP_iff, conjP_iff, avK_eq, effK_eq, stK_eq] at hv1
              subst hgv
              exact step (.opt true av) (fun y hy => unoptN_R (g := true) (opnd_R ht y) rfl (optOfN_spec hv1.1 y hy)) htr hv1.2.1 (fun ha => by subst ha; simpa using hadd) (fun _ _ _ h => ⟨fun _ => h, fun h => (by cases h)⟩) hv1.2.2
            | false =>
              rw [if_neg (by simp)]
              have hv2 := hv.2 hgv
              cases hd : o.dst with
              | none => rw [hd] at hv2; exact hK _ e _ w hh ht hv2
              | some d =>
                rw [hd] at hv2
                simp only [setK_eq] at hv2
                exact hK _ e _ w (HeapOK_tmps hh) (put_ok (st' := ⟨ts, bs, rs, ys, pn⟩) (av := .opt false .any) ht.1 ht.2 ⟨fun h => (by cases h), fun _ => rfl⟩) hv2
      · exact hv.elim
    · exact hv.elim
def TrOps (P : Program) (c : Ctx) (ops : Array Oper) (l : List Oper) (st : St) (K : St → Prop) : Prop :=
  ∀ (e : Env) (a : Act) (w : World) (Q : Exit → Act → World → Prop), HeapOK c e st w → TmpsOK c st e a → (∀ st e a w, HeapOK c e st w → TmpsOK c st e a → K st → Q .normal a w) → wpListIn (W c.r) 0 P ops Q l a w

theorem vcOps_sound {Q : Exit → Act → World → Prop} {K : St → Prop} (hTT : TTOK P TT) (hC : ∀ f con, C f = some con → ConOK P G f con) (hgood : ∀ w, Frame c w → G c.g0 w) (hY : YOK P c Y)
    (hK : ∀ st e a w, HeapOK c e st w → TmpsOK c st e a → K st → Q .normal a w) : ∀ (l : List Oper) (st : St) (e : Env) (a : Act) (w : World), HeapOK c e st w → TmpsOK c st e a → vcOps TT C Y (TrOps P c) ops l st K → wpListIn (W c.r) 0 P ops Q l a w := by
  intro l
  induction l with
  | nil => intro st e a w hh ht hv; exact hK st e a w hh ht hv
  | cons o l ih =>
    intro st e a w hh ht hv
    obtain ⟨ts, bs, rs, ys, pn⟩ := st
    change (match isInl C ts o with | true => Lf (TrOps P c ops (o :: l) ⟨ts, bs, rs, ys, pn⟩ K) | false => lenK bs 0 fun nb => lenK rs 0 fun nr => vcOp TT C Y false nb nr ops o ⟨ts, bs, rs, ys, pn⟩ fun st' => vcOps TT C Y (TrOps P c) ops l st' K) at hv
    split at hv
    · exact hv.un e a w Q hh ht hK
    simp only [lenK_eq, Nat.zero_add] at hv
    have := vcOp_sound (K' := wpListIn (W c.r) 0 P ops Q l) (Q := Q) hTT hC hgood hY hh ht (fun j h1 _ => getK_length none bs _ h1) (fun j h1 _ => getK_length none rs _ h1) hv (fun st' e' a' w' h1 h2 h3 => ih st' e' a' w' h1 h2 h3)
    unfold wpListIn
    split
    · rename_i hw; rw [if_pos hw] at this; exact this
    · rename_i hw; rw [if_neg hw] at this; exact ⟨fun _ _ => trivial, this⟩
end
end Go.X

namespace Go.X
open Go.RowKit

theorem getK_overL {α : Type} (l : List (Option α)) (fr : Nat) (rs : List α) (i : Nat) : getK none (overL l fr rs) i = if fr ≤ i ∧ i < fr + rs.length then rs[i - fr]? else getK none l i := by
  induction rs generalizing l fr with
  | nil => simp only [overL, List.length_nil]; rw [if_neg (by omega)]
  | cons r rs ih =>
    simp only [overL, ih, List.length_cons, getK_putAt]
    by_cases h1 : fr + 1 ≤ i ∧ i < fr + 1 + rs.length
    · rw [if_pos h1, if_pos (by omega)]
      have : i - fr = (i - (fr + 1)) + 1 := by omega
      rw [this]; rfl
    · rw [if_neg h1]
      by_cases h2 : i = fr
      · rw [if_pos h2, if_pos (by omega), h2]; simp
      · rw [if_neg h2, if_neg (by omega)]

theorem mapK_congr {α β : Type} {f g : α → β} {l : List α} (h : ∀ x ∈ l, f x = g x) : mapK f l = mapK g l := by
  rw [mapK_eq, mapK_eq]; exact List.map_congr_left h

section
variable {TT : TypeId → Option TD} {C : Nat → Option Con} {Y : List (List AV) → List AV → Option (Prop × Bool)} {A A' : Operand → AV} {lk lk' : AV → Option SV} {rs rs' : AV → Option RV} {ys : List (List AV)} {fb fr : Nat}

theorem elems_congr {k : EK} {l : List (Nat × Operand)} (h : ∀ p ∈ l, A' p.2 = A p.2) (n : Nat) : elems k A' n l = elems k A n l := by
  induction l generalizing n with
  | nil => rfl
  | cons p l ih =>
    obtain ⟨i, x⟩ := p
    simp only [elems, h (i, x) (by simp), ih (fun q hq => h q (by simp [hq]))]

theorem allRes_mono {l : List AV} (h : ∀ v ∈ l, ∀ rv, rs v = some rv → rs' v = some rv) {m : List RV} (hm : allRes rs l = some m) : allRes rs' l = some m := by
  induction l generalizing m with
  | nil => simpa [allRes] using hm
  | cons x l ih =>
    simp only [allRes] at hm ⊢
    split at hm
    · rename_i r hr
      rw [h x (by simp) r hr]
      split at hm
      · rename_i m' hm'
        rw [ih (fun v hv => h v (by simp [hv])) hm']
        exact hm
      · cases hm
    · cases hm

theorem listOf_congr {l : List Operand} (h : ∀ x ∈ l, A' x = A x) : listOf A' l = listOf A l := by
  rw [listOf_eq, listOf_eq]; exact List.map_congr_left h

theorem bound_congr {lo : Option Operand} (h : ∀ y, lo = some y → A' y = A y) : bound A' lo = bound A lo := by
  cases lo with
  | none => rfl
  | some y => simp only [bound]; rw [h y rfl]

theorem tr_local {op : Op} {res : Res} (hA : ∀ x ∈ op.operands.toList, A' x = A x) (hlk : ∀ x ∈ op.operands.toList, ∀ sv, lk (A x) = some sv → lk' (A x) = some sv) (hrs : ∀ x ∈ op.operands.toList, ∀ rv, rs (A x) = some rv → rs' (A x) = some rv)
    (hcap : ∀ x ∈ op.operands.toList, ∀ g caps, A x = .fn g caps → ∀ v ∈ caps, ∀ rv, rs v = some rv → rs' v = some rv) (h : tr TT C Y A lk rs ys fb fr op = some res) : tr TT C Y A' lk' rs' ys fb fr op = some res := by
  cases op with
  | move x => simp only [tr] at h ⊢; rw [hA x (by simp [Op.operands])]; exact h
  | assign x => simp only [tr] at h ⊢; rw [hA x (by simp [Op.operands])]; exact h
  | pick c x y =>
    have hc := hA c (by simp [Op.operands])
    have hx := hA x (by simp [Op.operands])
    have hy := hA y (by simp [Op.operands])
    simp only [tr] at h ⊢
    unfold trPick at h ⊢
    simp only [hc]
    split at h
    · simp only [hy]; exact h
    · simp only [hx]; exact h
    · cases h
  | alloc T => exact h
  | box T x => simp only [tr] at h ⊢; rw [hA x (by simp [Op.operands])]; exact h
  | build T parts =>
    have hp : mapK (fun p : Nat × Operand => (p.1, A' p.2)) parts.toList = mapK (fun p => (p.1, A p.2)) parts.toList := mapK_congr fun p hp => by rw [hA p.2 (by simp [Op.operands]; exact ⟨p.1, by simpa using hp⟩)]
    simp only [tr] at h ⊢; rw [hp]; exact h
  | buildSlice T len parts =>
    have hp : ∀ k, elems k A' 0 parts.toList = elems k A 0 parts.toList := fun k => elems_congr (fun p hp => hA p.2 (by simp [Op.operands]; exact ⟨p.1, by simpa using hp⟩)) 0
    simp only [tr] at h ⊢
    simp only [hp]; exact h
  | load T x =>
    have h1 := hlk x (by simp [Op.operands])
    simp only [tr] at h ⊢
    rw [hA x (by simp [Op.operands])]
    cases hr : lk (A x) with
    | none => rw [hr] at h; simp at h
    | some rv => rw [hr] at h; rw [h1 rv hr]; exact h
  | store T x y =>
    have h1 := hlk x (by simp [Op.operands])
    simp only [tr] at h ⊢
    rw [hA x (by simp [Op.operands]), hA y (by simp [Op.operands])]
    cases hr : lk (A x) with
    | none => rw [hr] at h; simp at h
    | some rv => rw [hr] at h; rw [h1 rv hr]; exact h
  | nilCheck x => simp only [tr] at h ⊢; rw [hA x (by simp [Op.operands])]; exact h
  | binOp o T x y T' => simp only [tr] at h ⊢; rw [hA x (by simp [Op.operands]), hA y (by simp [Op.operands])]; exact h
  | unOp o T x => simp only [tr] at h ⊢; rw [hA x (by simp [Op.operands])]; exact h
  | convert s d x =>
    have h1 := hlk x (by simp [Op.operands])
    simp only [tr] at h ⊢
    rw [hA x (by simp [Op.operands])]
    split at h
    · exact h
    · exact h
    · rename_i ds dd hs hd hn1 hn2
      try simp only [hs, hd]
      split at h
      · rename_i E hk1 hk2
        try simp only [hk1, hk2]
        split at h
        · rename_i de hde
          try simp only [hde]
          split at h
          · rename_i hk3
            try simp only [hk3]
            cases hr : lk (A x) with
            | none => rw [hr] at h; simp at h
            | some rv => rw [hr] at h; rw [h1 rv hr]; exact h
          · cases h
        · cases h
      · rename_i E E' hk1 hk2
        try simp only [hk1, hk2]
        split at h
        · rename_i de hb hde
          try simp only [hb, hde]
          cases hr : lk (A x) with
          | none => rw [hr] at h; split at h <;> first | (cases h; done) | simp_all
          | some rv => rw [hr] at h; rw [h1 rv hr]; exact h
        · cases h
      · cases h
    · cases h
  | makeFunc fn first caps =>
    have hc : listOf A' caps.toList = listOf A caps.toList := by
      rw [listOf_eq, listOf_eq]; exact List.map_congr_left fun x hx => hA x (by simp [Op.operands]; exact .inr (by simpa using hx))
    simp only [tr] at h ⊢; rw [hc]; exact h
  | makeInterface T x => simp only [tr] at h ⊢; rw [hA x (by simp [Op.operands])]; exact h
  | slice T x lo hi mx =>
    have h1 := hlk x (by simp [Op.operands])
    have hx := hA x (by simp [Op.operands])
    have hlo : bound A' lo = bound A lo := bound_congr fun y hy => hA y (by simp [Op.operands, hy])
    have hhi : bound A' hi = bound A hi := bound_congr fun y hy => hA y (by simp [Op.operands, hy])
    have hmx : ∀ y, mx = some y → A' y = A y := fun y hy => hA y (by simp [Op.operands, hy])
    simp only [tr] at h ⊢
    rw [hx]
    split at h
    · rename_i s hs
      try simp only [hs]
      split at h
      · unfold trSlice at h ⊢
        rw [hx, hlo, hhi]; exact h
      · cases h
    · rename_i hns
      unfold trSliceR at h ⊢
      have hmx' : bound A' mx = bound A mx := bound_congr hmx
      rw [hx, hlo, hhi, hmx']
      cases hr : lk (A x) with
      | none => rw [hr] at h; (repeat' (split at h)) <;> simp_all
      | some sv =>
        rw [hr] at h
        rw [h1 sv hr]
        exact h
  | fieldAddr T x f => simp only [tr] at h ⊢; rw [hA x (by simp [Op.operands])]; exact h
  | field T x f => simp only [tr] at h ⊢; rw [hA x (by simp [Op.operands])]; exact h
  | indexAddr T x i =>
    have h1 := hlk x (by simp [Op.operands])
    simp only [tr] at h ⊢
    rw [hA x (by simp [Op.operands]), hA i (by simp [Op.operands])]
    cases hr : lk (A x) with
    | none => rw [hr] at h; simp at h
    | some rv => rw [hr] at h; rw [h1 rv hr]; exact h
  | index T x i => simp only [tr] at h ⊢; rw [hA x (by simp [Op.operands]), hA i (by simp [Op.operands])]; exact h
  | extract t i => simp only [tr] at h ⊢; rw [hA t (by simp [Op.operands])]; exact h
  | call cl =>
    obtain ⟨callee, args, ts⟩ := cl
    cases callee with
    | invoke r m => simp [tr] at h
    | value f =>
      simp only [Op.operands, Call.operands] at hA hrs hcap
      have hargs : listOf A' args.toList = listOf A args.toList := listOf_congr fun x hx => hA x (by simp; exact .inr (by simpa using hx))
      simp only [tr] at h ⊢
      rw [hA f (by simp), hargs]
      cases hf : A f with
      | fn g caps =>
        simp only [hf] at h ⊢
        have hc := hcap f (by simp) g caps hf
        unfold callC at h ⊢
        split at h
        · split at h
          · rename_i rvs hrvs
            rw [allRes_mono (fun v hv => ?_) hrvs]
            · exact h
            · rw [appendList_eq, listOf_eq] at hv
              rcases List.mem_append.1 hv with hv | hv
              · obtain ⟨x, hx, rfl⟩ := List.mem_map.1 hv
                exact hrs x (by simp; exact .inr (by simpa using hx))
              · exact hc v hv
          · cases h
        · cases h
      | yv => rw [hf] at h; exact h
      | _ => rw [hf] at h; simp at h
    | builtin b =>
      have hA' : ∀ x ∈ args.toList, A' x = A x := fun x hx => hA x (by simpa [Op.operands, Call.operands] using hx)
      have hlk' : ∀ x ∈ args.toList, ∀ rv, lk (A x) = some rv → lk' (A x) = some rv := fun x hx => hlk x (by simpa [Op.operands, Call.operands] using hx)
      simp only [tr] at h ⊢
      generalize args.toList = l at h hA' hlk' ⊢
      generalize ts.toList = tl at h ⊢
      unfold trBuiltin at h ⊢
      split at h
      · rename_i x t
        have h1 := hlk' x (by simp)
        split at h
        · unfold trLen at h ⊢
          rw [hA' x (by simp)]
          cases hr : lk (A x) with
          | none => rw [hr] at h; simp at h
          | some rv => rw [hr] at h; rw [h1 rv hr]; exact h
        · unfold trClear at h ⊢
          rw [hA' x (by simp)]
          cases hr : lk (A x) with
          | none => rw [hr] at h; simp at h
          | some rv => rw [hr] at h; rw [h1 rv hr]; exact h
        · cases h
      · rename_i x y
        have hx := hA' x (by simp)
        have hy := hA' y (by simp)
        split at h
        · simp only [hx, hy]; exact h
        · simp only [hx, hy]; exact h
        · split at h
          · split at h
            · rename_i ht
              rw [if_pos ht]
              unfold trAppend at h ⊢
              rw [hx, hy]
              have h1 := hlk' x (by simp)
              have h2 := hlk' y (by simp)
              cases hr : lk (A y) with
              | none => rw [hr] at h; simp at h
              | some sv =>
                rw [hr] at h
                rw [h2 sv hr]
                split at h
                · split at h
                  · rename_i hrl hk
                    try simp only [hrl, hk]
                    split at h
                    · rename_i hde
                      try simp only [hde]
                      cases hq : lk (A x) with
                      | none => rw [hq] at h; simp at h
                      | some rv2 => rw [hq] at h; rw [h1 rv2 hq]; exact h
                    · cases h
                  · cases h
                · cases h
            · rename_i ht
              rw [if_neg ht]
              unfold trAppendS at h ⊢
              rw [hy]
              have h1 := hlk' x (by simp)
              cases hr : lk (A x) with
              | none =>
                rw [hr] at h
                (repeat' (split at h)) <;> first | (cases h; done) | simp_all
              | some sv =>
                rw [hr] at h
                rw [hx, h1 sv hr]
                exact h
          · cases h
        · cases h
      · cases h
  | _ => simp [tr] at h
end
end Go.X

namespace Go.X
open Go.RowKit
def QK (c : Ctx) (K : Exit → St → Prop) : Exit → Act → World → Prop
  | .panic _, _, _ => False
  | .outgrown, _, _ => False
  | ex, a, w => ∃ st e, HeapOK c e st w ∧ TmpsOK c st e a ∧ K ex st
def Tr (P : Program) (c : Ctx) (code : Code) (st : St) (K : Exit → St → Prop) : Prop :=
  ∀ e a w, HeapOK c e st w → TmpsOK c st e a → code.wpIn (W c.r) 0 P (QK c K) a w

section
variable {P : Program} {G : Nat → World → Prop} {TT : TypeId → Option TD} {C : Nat → Option Con} {Y : List (List AV) → List AV → Option (Prop × Bool)} {c : Ctx}

abbrev vc (P : Program) (TT : TypeId → Option TD) (C : Nat → Option Con) (Y : List (List AV) → List AV → Option (Prop × Bool)) (c : Ctx) (code : Code) (st : St) (K : Exit → St → Prop) : Prop := vcG TT C Y (TrOps P c) (fun code st K => Lf (Tr P c code st K)) code st K

theorem QK_mono {K K' : Exit → St → Prop} (h : ∀ ex st, K ex st → K' ex st) {ex : Exit} {a : Act} {w : World} (hq : QK c K ex a w) : QK c K' ex a w := by
  cases ex <;> first | exact hq | (obtain ⟨st, e, h1, h2, h3⟩ := hq; exact ⟨st, e, h1, h2, h _ _ h3⟩)
def DrawOK (P : Program) (TT : TypeId → Option TD) (C : Nat → Option Con) (Y : List (List AV) → List AV → Option (Prop × Bool)) (c : Ctx) : Prop :=
  ∀ (id : Nat) (ops : Array Oper) (st : St) (K : St → Prop) (e : Env) (a : Act) (w : World) (Q : Exit → Act → World → Prop), drawOk C ops = true → vcDraw TT C Y ops st K → HeapOK c e st w → TmpsOK c st e a →
    (∀ st e a w, HeapOK c e st w → TmpsOK c st e a → K st → Q .normal a w) → (Code.region id ops true).wpIn (W c.r) 0 P Q a w

theorem vc_sound (hTT : TTOK P TT) (hC : ∀ f con, C f = some con → ConOK P G f con) (hgood : ∀ w, Frame c w → G c.g0 w) (hY : YOK P c Y) (hdraw : DrawOK P TT C Y c) :
    ∀ (code : Code) (st : St) (K : Exit → St → Prop), drawsOk C code = true → vc P TT C Y c code st K → Tr P c code st K := by
  intro code
  induction code with
  | skip => intro st K _ h e a w hh ht; exact wpIn_skip ⟨st, e, hh, ht, h⟩
  | region id ops draw =>
    intro st K hd h e a w hh ht
    cases draw with
    | false =>
      obtain ⟨l⟩ := ops
      refine wpIn_region_lit ?_
      exact vcOps_sound hTT hC hgood hY (fun st e a w h1 h2 h3 => ⟨st, e, h1, h2, h3⟩) _ st e a w hh ht h
    | true =>
      refine hdraw id ops st _ e a w _ (by simpa [drawsOk] using hd) h hh ht (fun st e a w h1 h2 h3 => ⟨st, e, h1, h2, h3⟩)
  | seq x y ihx ihy =>
    intro st K hd h e a w hh ht
    simp only [drawsOk, Bool.and_eq_true] at hd
    refine wpIn_seq (wpIn_mono (ihx st _ hd.1 h e a w hh ht) ?_)
    intro ex a' w' hq
    cases ex with
    | normal => obtain ⟨st', e', h1, h2, h3⟩ := hq; exact ihy st' K hd.2 h3 e' a' w' h1 h2
    | _ => exact hq
  | cond cc x1 y ihx ihy =>
    intro st K hd h e a w hh ht
    simp only [drawsOk, Bool.and_eq_true] at hd
    change (match opnd st.tmps cc with | .b x => (x = true → vc P TT C Y c x1 st K) ∧ (x = false → vc P TT C Y c y st K) | _ => False) at h
    split at h
    · rename_i b hb
      have hR := opnd_R ht cc
      rw [hb] at hR
      refine wpIn_cond_split hR (fun hb' => ihx st K hd.1 (h.1 hb') e a w hh ht) (fun hb' => ihy st K hd.2 (h.2 hb') e a w hh ht)
    · exact h.elim
  | block id x ih =>
    intro st K hd h e a w hh ht
    refine wpIn_block (wpIn_mono (ih st _ (by simpa [drawsOk] using hd) h e a w hh ht) ?_)
    intro ex a' w' hq
    cases ex with
    | exit id' =>
      obtain ⟨st', e', h1, h2, h3⟩ := hq
      simp only [exitBlock] at h3
      simp only [Exit.inBlock]
      split
      · rename_i hi; rw [if_pos hi] at h3; exact ⟨st', e', h1, h2, h3⟩
      · rename_i hi; rw [if_neg hi] at h3; exact ⟨st', e', h1, h2, h3⟩
    | _ => exact hq
  | exit id => intro st K _ h e a w hh ht; exact wpIn_exit ⟨st, e, hh, ht, h⟩
  | ret => intro st K _ h e a w hh ht; exact wpIn_ret ⟨st, e, hh, ht, h⟩
  | loop x _ => intro st K _ h; exact h.un
  | rangeFunc f ps x y _ _ => intro st K _ h; exact h.un
  | scope x _ => intro st K _ h; exact h.un
  | label l => intro st K _ h; exact h.un
  | goto l => intro st K _ h; exact h.un
  | refuse s => intro st K _ h; exact h.un

def leT : List AV → List AV → Prop
  | [], [] => True
  | _ :: l, .any :: m => leT l m
  | x :: l, y :: m => x = y ∧ leT l m
  | _, _ => False
def leO {α : Type} : List (Option α) → List (Option α) → Prop
  | _, [] => True
  | _ :: l, none :: m => leO l m
  | x :: l, some y :: m => x = some y ∧ leO l m
  | [], none :: m => leO ([] : List (Option α)) m
  | [], some _ :: _ => False
mutual
def sc (bs : List (Option Box)) (rs : List (Option Row)) : AV → Bool
  | .box id _ => (match getK none bs id with | some _ => true | none => false)
  | .row id => (match getK none rs id with | some _ => true | none => false)
  | .view id _ _ _ => (match getK none rs id with | some _ => true | none => false)
  | .arrp id => (match getK none rs id with | some _ => true | none => false)
  | .elt id _ _ => (match getK none rs id with | some _ => true | none => false)
  | .fn _ l => scL bs rs l
  | .agg l => scL bs rs l
  | .tup l => scL bs rs l
  | .opt _ v => sc bs rs v
  | .ifc _ v => sc bs rs v
  | _ => true
def scL (bs : List (Option Box)) (rs : List (Option Row)) : List AV → Bool
  | [] => true
  | x :: l => sc bs rs x && scL bs rs l
end
def scB (bs : List (Option Box)) (rs : List (Option Row)) : List (Option Box) → Bool
  | [] => true
  | none :: l => scB bs rs l
  | some b :: l => scL bs rs b.cells && scB bs rs l
structure Le (st st' : St) : Prop where
  tmps : leT st.tmps st'.tmps
  ys : st.ys = st'.ys
  pin : leT st.pin st'.pin
  boxes : leO st.boxes st'.boxes
  rows : leO st.rows st'.rows
  sc : (scL st'.boxes st'.rows st'.tmps && (scL st'.boxes st'.rows st'.pin && scB st'.boxes st'.rows st'.boxes)) = true

theorem leO_get {α : Type} {l m : List (Option α)} (h : leO l m) : ∀ i x, getK none m i = some x → getK none l i = some x := by
  induction m generalizing l with
  | nil => intro i x hx; simp [getK] at hx
  | cons y m ih =>
    intro i x hx
    cases l with
    | nil =>
      cases y with
      | none => cases i with
        | zero => simp [getK] at hx
        | succ i => have := ih (l := []) (by simpa [leO] using h) i x (by simpa [getK] using hx); simp [getK] at this
      | some z => simp [leO] at h
    | cons z l =>
      cases y with
      | none => cases i with
        | zero => simp [getK] at hx
        | succ i => simpa [getK] using ih (by simpa [leO] using h) i x (by simpa [getK] using hx)
      | some y =>
        simp only [leO] at h
        cases i with
        | zero => simp only [getK] at hx ⊢; rw [h.1]; exact hx
        | succ i => simpa [getK] using ih h.2 i x (by simpa [getK] using hx)

mutual
theorem sc_R {st st' : St} {e : Env} (hr : ∀ i x, getK none st'.rows i = some x → getK none st.rows i = some x) (v : AV) (x : Value) (hs : sc st'.boxes st'.rows v = true) (h : R st e v x) : R st' e v x := by
  match v with
  | .i .. | .b .. | .s .. | .nilp | .nilf | .nili | .nils | .mp _ | .pt _ | .yv | .any => exact h
  | .view id lo hi ex =>
    obtain ⟨r, h1, h2⟩ := h
    simp only [sc] at hs
    split at hs
    · rename_i b hb
      have := hr id b hb
      rw [h1] at this; cases this
      exact ⟨r, hb, h2⟩
    · cases hs
  | .arrp id =>
    obtain ⟨r, h1, h2⟩ := h
    simp only [sc] at hs
    split at hs
    · rename_i b hb
      have := hr id b hb
      rw [h1] at this; cases this
      exact ⟨r, hb, h2⟩
    · cases hs
  | .box id off =>
    obtain ⟨_, h2⟩ := h
    simp only [sc] at hs
    split at hs
    · rename_i b hb; exact ⟨⟨b, hb⟩, h2⟩
    · cases hs
  | .row id =>
    obtain ⟨_, h2⟩ := h
    simp only [sc] at hs
    split at hs
    · rename_i b hb; exact ⟨⟨b, hb⟩, h2⟩
    · cases hs
  | .elt id ix sub =>
    obtain ⟨r, h1, h2⟩ := h
    simp only [sc] at hs
    split at hs
    · rename_i b hb
      have := hr id b hb
      rw [h1] at this; cases this
      exact ⟨r, hb, h2⟩
    · cases hs
  | .fn f l => obtain ⟨vs, h1, h2⟩ := h; exact ⟨vs, h1, sc_RL hr l vs (by simpa [sc] using hs) h2⟩
  | .agg l => obtain ⟨vs, h1, h2⟩ := h; exact ⟨vs, h1, sc_RL hr l vs (by simpa [sc] using hs) h2⟩
  | .tup l => obtain ⟨vs, h1, h2⟩ := h; exact ⟨vs, h1, sc_RL hr l vs (by simpa [sc] using hs) h2⟩
  | .opt g v => exact ⟨fun hg => sc_R hr v x (by simpa [sc] using hs) (h.1 hg), h.2⟩
  | .ifc T v => obtain ⟨y, h1, h2⟩ := h; exact ⟨y, h1, sc_R hr v y (by simpa [sc] using hs) h2⟩
theorem sc_RL {st st' : St} {e : Env} (hr : ∀ i x, getK none st'.rows i = some x → getK none st.rows i = some x) (l : List AV) (vs : List Value) (hs : scL st'.boxes st'.rows l = true) (h : RL st e l vs) : RL st' e l vs := by
  match l with
  | [] => exact h
  | x :: l =>
    obtain ⟨v, vs', h1, h2, h3⟩ := h
    simp only [scL, Bool.and_eq_true] at hs
    exact ⟨v, vs', h1, sc_R hr x v hs.1 h2, sc_RL hr l vs' hs.2 h3⟩
end

theorem scB_get {bs : List (Option Box)} {rs : List (Option Row)} {l : List (Option Box)} (h : scB bs rs l = true) : ∀ i b, getK none l i = some b → scL bs rs b.cells = true := by
  induction l with
  | nil => intro i b hb; simp [getK] at hb
  | cons x l ih =>
    intro i b hb
    cases x with
    | none => cases i with
      | zero => simp [getK] at hb
      | succ i => exact ih (by simpa [scB] using h) i b (by simpa [getK] using hb)
    | some y =>
      simp only [scB, Bool.and_eq_true] at h
      cases i with
      | zero => simp [getK] at hb; subst hb; exact h.1
      | succ i => exact ih h.2 i b (by simpa [getK] using hb)

theorem le_sound {st st' : St} {e : Env} {w : World} {a : Act} (hle : Le st st') (hh : HeapOK c e st w) (ht : TmpsOK c st e a) : HeapOK c e st' w ∧ TmpsOK c st' e a := by
  have hb := leO_get hle.boxes
  have hr := leO_get hle.rows
  have hs := hle.sc
  simp only [Bool.and_eq_true] at hs
  have hBB : ∀ i g, blkB e st' i = some g → blkB e st i = some g := by
    intro i g h
    simp only [blkB] at h ⊢
    cases hi : getK none st'.boxes i with
    | none => rw [hi] at h; cases h
    | some b => rw [hi] at h; rw [hb i b hi]; exact h
  have hRR : ∀ i g, blkR e st' i = some g → blkR e st i = some g := by
    intro i g h
    simp only [blkR] at h ⊢
    cases hi : getK none st'.rows i with
    | none => rw [hi] at h; cases h
    | some b => rw [hi] at h; rw [hr i b hi]; exact h
  have key : ∀ (l m : List AV) (vs : List Value), leT l m → RL st e l vs → scL st'.boxes st'.rows m = true → RL st' e m vs := by
    intro l
    induction l with
    | nil => intro m vs h1 h2 h3; cases m with
      | nil => exact h2
      | cons y m => simp [leT] at h1
    | cons x l ih =>
      intro m vs h1 h2 h3
      obtain ⟨v, vs', rfl, hx, hl⟩ := h2
      cases m with
      | nil => simp [leT] at h1
      | cons y m =>
        simp only [scL, Bool.and_eq_true] at h3
        by_cases hy : y = .any
        · subst hy
          exact ⟨v, vs', rfl, trivial, ih m vs' (by simpa [leT] using h1) hl h3.2⟩
        · have h1' : x = y ∧ leT l m := by cases y <;> first | exact h1 | exact absurd rfl hy
          obtain ⟨rfl, h1''⟩ := h1'
          exact ⟨v, vs', rfl, sc_R hr x v h3.1 hx, ih m vs' h1'' hl h3.2⟩
  refine ⟨⟨hh.frame, fun id bx h => ?_, fun id r h => hh.row id r (hr id r h), fun i j g h1 h2 => hh.injB i j g (hBB i g h1) (hBB j g h2), fun i j g h1 h2 => hh.injR i j g (hRR i g h1) (hRR j g h2), fun i j g h1 h2 => hh.apart i j g (hBB i g h1) (hRR j g h2), by rw [← hle.ys]; exact hh.out, hh.defd, hh.defm, hh.mwr, hh.yl, hh.nd, key _ _ _ hle.pin hh.pin hs.2.1⟩, key _ _ _ hle.tmps ht.1 hs.1, ht.2⟩
  obtain ⟨⟨vs, h1, h2, h3⟩, h4⟩ := hh.box id bx (hb id bx h)
  exact ⟨⟨vs, h1, sc_RL hr _ _ (scB_get hs.2.2 id bx h) h2, h3⟩, h4⟩

theorem Tr_le {code : Code} {st st' : St} {K : Exit → St → Prop} (hle : Le st st') (h : Tr P c code st' K) : Tr P c code st K :=
  fun e a w hh ht => let ⟨h1, h2⟩ := le_sound hle hh ht; h e a w h1 h2

theorem exists_min {p : Nat → Prop} (h : ∃ n, p n) : ∃ n, p n ∧ ∀ m, p m → n ≤ m := by
  obtain ⟨n, hn⟩ := h
  induction n using Nat.strongRecOn with
  | _ n ih =>
    by_cases hm : ∃ m, m < n ∧ p m
    · obtain ⟨m, h1, h2⟩ := hm; exact ih m h1 h2
    · exact ⟨n, hn, fun m h2 => by rcases Nat.lt_or_ge m n with h3 | h3; exact absurd ⟨m, h3, h2⟩ hm; exact h3⟩

theorem Tr_loop {α : Type} (S : α → St) (ok : α → Prop) (μ : α → Nat) {body : Code} {st : St} {K : Exit → St → Prop} (x0 : α) (h0 : ok x0) (hle : Le st (S x0))
    (hround : ∀ x, ok x → Tr P c body (S x) (exitThen (fun st' => ∃ x', ok x' ∧ μ x' < μ x ∧ Le st' (S x')) K)) : Tr P c (.loop body) st K := by
  refine Tr_le hle ?_
  intro e a w hh ht
  let Sat : Act → World → Nat → Prop := fun a w n => ∃ x e, μ x = n ∧ ok x ∧ HeapOK c e (S x) w ∧ TmpsOK c (S x) e a
  classical
  let m : Act → World → Nat := fun a w => if h : ∃ n, Sat a w n then Classical.choose (exists_min h) else 0
  have hmin : ∀ a w (h : ∃ n, Sat a w n), Sat a w (m a w) ∧ ∀ n, Sat a w n → m a w ≤ n := fun a w h => by
    have : m a w = Classical.choose (exists_min h) := dif_pos h
    rw [this]; exact Classical.choose_spec (exists_min h)
  refine wpIn_loop (fun a w => ∃ n, Sat a w n) m ⟨_, x0, e, rfl, h0, hh, ht⟩ ?_
  intro a1 w1 hI
  obtain ⟨x, e1, hx, hok, hh1, ht1⟩ := (hmin a1 w1 hI).1
  refine wpIn_mono (hround x hok e1 a1 w1 hh1 ht1) ?_
  intro ex a2 w2 hq
  cases ex with
  | normal =>
    obtain ⟨st2, e2, h1, h2, x', h3, h4, h5⟩ := hq
    obtain ⟨h6, h7⟩ := le_sound h5 h1 h2
    have hI2 : ∃ n, Sat a2 w2 n := ⟨_, x', e2, rfl, h3, h6, h7⟩
    refine ⟨hI2, ?_⟩
    have := (hmin a2 w2 hI2).2 (μ x') ⟨x', e2, rfl, h3, h6, h7⟩
    omega
  | _ => exact hq

def dsts : List Oper → List Nat → List Nat
  | [], acc => acc
  | o :: l, acc => match o.dst with
    | some d => d :: dsts l acc
    | none => dsts l acc
def writes : Code → List Nat → List Nat
  | .region _ ops _, acc => dsts ops.toList acc
  | .seq a b, acc => writes a (writes b acc)
  | .cond _ a b, acc => writes a (writes b acc)
  | .block _ a, acc => writes a acc
  | .loop a, acc => writes a acc
  | .scope a, acc => writes a acc
  | .rangeFunc _ ps a b, acc => appendList ps.toList (writes a (writes b acc))
  | _, acc => acc
def memN : List Nat → Nat → Bool
  | [], _ => false
  | x :: l, n => match Nat.beq x n with
    | true => true
    | false => memN l n
def forget (ns : List Nat) : List AV → Nat → List AV
  | [], _ => []
  | x :: l, i => (match memN ns i with | true => .any | false => x) :: forget ns l (i + 1)
def setAll {α : Type} (d : α) : List α → List (Nat × α) → List α
  | l, [] => l
  | l, (n, x) :: r => setAll d (putAt d l n x) r
def headOf (body : Code) (st : St) (ts : List (Nat × AV)) (bs : List (Nat × Option Box)) (rs : List (Nat × Option Row)) : St :=
  ⟨setAll .any (forget (writes body []) st.tmps 0) ts, setAll none st.boxes bs, setAll none st.rows rs, st.ys, st.pin⟩
end
end Go.X

namespace Go.X
open Go.RowKit

theorem masks_length (l : List Oper) : ∀ acc : List Nat, (masks acc l).length = acc.length + l.length := by
  induction l with
  | nil => intro acc; rfl
  | cons o l ih => intro acc; simp only [masks, ih]; simp; omega
theorem masks_old (l : List Oper) : ∀ (acc : List Nat) (i : Nat), i < acc.length → (masks acc l)[i]? = acc[i]? := by
  induction l with
  | nil => intro acc i _; rfl
  | cons o l ih =>
    intro acc i hi
    simp only [masks]
    rw [ih _ i (by simp; omega), List.getElem?_append_left hi]
theorem maskOf_bit {acc : List Nat} {k : Nat} : ∀ (es : List Edge), (maskOf acc es).testBit k = true → ∃ e ∈ es, Region.binds .any e = true ∧ (k = e.on ∨ (acc.getD e.on 0).testBit k = true) := by
  intro es
  induction es with
  | nil => intro h; simp [maskOf] at h
  | cons e es ih =>
    intro h
    simp only [maskOf, Nat.testBit_or, Bool.or_eq_true] at h
    rcases h with h | h
    · split at h
      · rename_i hb
        simp only [Nat.testBit_or, Bool.or_eq_true, Nat.testBit_two_pow] at h
        rcases h with h | h
        · exact ⟨e, by simp, hb, .inl (of_decide_eq_true h).symm⟩
        · exact ⟨e, by simp, hb, .inr h⟩
      · simp at h
    · obtain ⟨e', h1, h2⟩ := ih h
      exact ⟨e', by simp [h1], h2⟩
theorem masks_bit (l : List Oper) : ∀ (acc : List Nat) (i k : Nat) (o : Oper), l[i]? = some o → ((masks acc l).getD (acc.length + i) 0).testBit k = true →
    ∃ e ∈ o.after.toList, Region.binds .any e = true ∧ (k = e.on ∨ (e.on < acc.length + i ∧ ((masks acc l).getD e.on 0).testBit k = true)) := by
  induction l with
  | nil => intro acc i k o h; simp at h
  | cons o l ih =>
    intro acc i k o' h hk
    cases i with
    | zero =>
      simp at h; subst h
      simp only [masks, Nat.add_zero, List.getD_eq_getElem?_getD] at hk
      rw [masks_old _ _ _ (by simp), List.getElem?_append_right (Nat.le_refl _)] at hk
      simp at hk
      obtain ⟨e, h1, h2, h3⟩ := maskOf_bit _ hk
      refine ⟨e, h1, h2, ?_⟩
      rcases h3 with h3 | h3
      · exact .inl h3
      · right
        have hlt : e.on < acc.length := by
          rcases Nat.lt_or_ge e.on acc.length with h4 | h4
          · exact h4
          · simp [List.getD_eq_getElem?_getD, List.getElem?_eq_none h4] at h3
        refine ⟨hlt, ?_⟩
        simp only [masks, List.getD_eq_getElem?_getD]
        rw [masks_old _ _ _ (by simp; omega), List.getElem?_append_left hlt]
        simpa [List.getD_eq_getElem?_getD] using h3
    | succ i =>
      have := ih (acc ++ [maskOf acc o.after.toList]) i k o' (by simpa using h) (by simpa [masks, Nat.add_assoc, Nat.add_comm 1 i] using hk)
      simpa [masks, Nat.add_assoc, Nat.add_comm 1 i] using this

section
variable {P : Program} {G : Nat → World → Prop} {TT : TypeId → Option TD} {C : Nat → Option Con} {Y : List (List AV) → List AV → Option (Prop × Bool)} {c : Ctx} {ops : Array Oper} {n nb nr : Nat}
def Data (TT : TypeId → Option TD) (C : Nat → Option Con) (Y : List (List AV) → List AV → Option (Prop × Bool)) (ops : Array Oper) (nb nr j : Nat) (o : Oper) (st : St) (av : AV) (eff : Eff) : Prop :=
  match o.guard with
  | none => eff.adds = true ∧ ∃ pre, tr TT C Y (opnd st.tmps) (look st) (resolve st) st.ys (nb + j) (nr + 4 * j) o.op = some ⟨pre, av, eff⟩ ∧ ∀ p ∈ pre, p
  | some (i, want) => ∃ g, guardOf ops st.tmps i want = some g ∧
    ((g = true ∧ eff.adds = true ∧ ∃ pre av0, av = .opt true av0 ∧ tr TT C Y (fun x => (unoptN (needs o.op x) true (opnd st.tmps x)).2) (look st) (resolve st) st.ys (nb + j) (nr + 4 * j) o.op = some ⟨pre, av0, eff⟩ ∧
      (∀ p ∈ optOfN o.op st.tmps true o.op.operands.toList, p) ∧ ∀ p ∈ pre, p) ∨
     (g = false ∧ eff = .none ∧ ∃ av0, av = .opt false av0))

theorem not_dead {op : Op} {ts : List AV} : ∀ l : List Operand, (∀ p ∈ optOfN op ts true l, p) → deadL op ts l = false := by
  intro l
  induction l with
  | nil => intro _; rfl
  | cons x l ih =>
    intro h
    simp only [optOfN, appendList_eq, List.mem_append] at h
    have h2 := ih (fun p hp => h p (.inr hp))
    unfold deadL
    cases hn : needs op x with
    | false => exact h2
    | true =>
      simp only
      cases hd : dead (opnd ts x) with
      | false => exact h2
      | true =>
        exfalso
        have h1 : ∀ p ∈ (unoptN true true (opnd ts x)).1, p := fun p hp => h p (.inl (by rw [hn]; exact hp))
        cases hv : opnd ts x with
        | opt g v =>
          rw [hv] at hd h1
          cases v <;> simp only [dead] at hd <;> try (cases hd; done)
          cases g with
          | true => cases hd
          | false => have := h1 (true = true → false = true) (by simp [unoptN, unopt]); exact Bool.noConfusion (this rfl)
        | _ => rw [hv] at hd; simp [dead] at hd

def stepOf (nb nr j : Nat) (o : Oper) (st : St) (av : AV) (eff : Eff) : St :=
  match o.dst with
  | some d => ⟨(eff.apply (nb + j) (nr + 4 * j) st).tmps.set d av, (eff.apply (nb + j) (nr + 4 * j) st).boxes, (eff.apply (nb + j) (nr + 4 * j) st).rows, (eff.apply (nb + j) (nr + 4 * j) st).ys, (eff.apply (nb + j) (nr + 4 * j) st).pin⟩
  | none => eff.apply (nb + j) (nr + 4 * j) st

theorem vcOp_data {j : Nat} {o : Oper} {st : St} {K : St → Prop} (h : vcOp TT C Y true (nb + j) (nr + 4 * j) ops o st K) : ∃ av eff, Data TT C Y ops nb nr j o st av eff ∧ K (stepOf nb nr j o st av eff) := by
  obtain ⟨ts, bs, rs, ys, pn⟩ := st
  unfold vcOp at h
  unfold Data stepOf
  cases hg : o.guard with
  | none =>
    rw [hg] at h
    simp only at h ⊢
    split at h
    · rename_i pre av eff htr
      split at h
      · rename_i hadd
        rw [conjP_iff, avK_eq, effK_eq, stK_eq] at h
        refine ⟨av, eff, ⟨by simpa using hadd, pre, htr, h.1⟩, ?_⟩
        have h2 := h.2
        cases hd : o.dst with
        | none => rw [hd] at h2; exact h2
        | some d =>
          rw [hd] at h2
          generalize eff.apply (nb + j) (nr + 4 * j) ⟨ts, bs, rs, ys, pn⟩ = st' at h2 ⊢
          obtain ⟨ts', bs', rs', ys', pn'⟩ := st'
          simpa only [setK_eq] using h2
      · exact h.elim
    · exact h.elim
  | some q =>
    obtain ⟨i, want⟩ := q
    rw [hg] at h
    simp only at h ⊢
    split at h
    · rename_i g hgo
      split at h
      · have hgf : g = false := by
          cases hgv : g with
          | false => rfl
          | true => exact (h.1 hgv).elim
        refine ⟨.opt false .any, .none, ⟨g, hgo, .inr ⟨hgf, rfl, .any, rfl⟩⟩, ?_⟩
        have h2 := h.2
        cases hd : o.dst with
        | none => rw [hd] at h2; exact h2
        | some d => rw [hd] at h2; simp only [setK_eq] at h2; exact h2
      · split at h
        · rename_i pre av eff htr
          split at h
          · rename_i hne
            obtain rfl := isNone_eq hne
            rw [conjP_iff, conjP_iff, avK_eq] at h
            refine ⟨.opt g av, .none, ⟨g, hgo, ?_⟩, ?_⟩
            · cases hgv : g with
              | true => subst hgv; exact .inl ⟨rfl, rfl, pre, av, rfl, htr, h.1, impl_spec h.2.1 rfl⟩
              | false => exact .inr ⟨rfl, rfl, av, rfl⟩
            · have h2 := h.2.2
              cases hd : o.dst with
              | none => rw [hd] at h2; exact h2
              | some d => rw [hd] at h2; simp only [setK_eq] at h2; exact h2
          · split at h
            · exact h.elim
            · rename_i hadd
              cases hgv : g with
              | true =>
                subst hgv
                have h1 := h.1 rfl
                rw [conjP_iff, conjP_iff, avK_eq, effK_eq, stK_eq] at h1
                refine ⟨.opt true av, eff, ⟨true, hgo, .inl ⟨rfl, by simpa using hadd, pre, av, rfl, htr, h1.1, h1.2.1⟩⟩, ?_⟩
                have h2 := h1.2.2
                cases hd : o.dst with
                | none => rw [hd] at h2; exact h2
                | some d =>
                  rw [hd] at h2
                  generalize eff.apply (nb + j) (nr + 4 * j) ⟨ts, bs, rs, ys, pn⟩ = st' at h2 ⊢
                  obtain ⟨ts', bs', rs', ys', pn'⟩ := st'
                  simpa only [setK_eq] using h2
              | false =>
                have h2 := h.2 hgv
                refine ⟨.opt false .any, .none, ⟨false, by rw [hgo, hgv], .inr ⟨rfl, rfl, .any, rfl⟩⟩, ?_⟩
                cases hd : o.dst with
                | none => rw [hd] at h2; exact h2
                | some d => rw [hd] at h2; simp only [setK_eq] at h2; exact h2
        · exact h.elim
    · exact h.elim
theorem data_vcOp {j : Nat} {o : Oper} {st : St} {K : St → Prop} {av : AV} {eff : Eff} (hd : Data TT C Y ops nb nr j o st av eff) (hK : K (stepOf nb nr j o st av eff)) (hg : ∀ i want, o.guard = some (i, want) → guardOf ops st.tmps i want = some true) : vcOp TT C Y true (nb + j) (nr + 4 * j) ops o st K := by
  obtain ⟨ts, bs, rs, ys, pn⟩ := st
  unfold vcOp
  unfold Data at hd
  unfold stepOf at hK
  cases hgd : o.guard with
  | none =>
    rw [hgd] at hd
    simp only at hd ⊢
    obtain ⟨hadd, pre, htr, hp⟩ := hd
    rw [htr]
    simp only [Bool.not_true, Bool.false_or, hadd]
    rw [conjP_iff, avK_eq, effK_eq, stK_eq]
    refine ⟨hp, ?_⟩
    cases hd : o.dst with
    | none => rw [hd] at hK; exact hK
    | some d =>
      rw [hd] at hK
      generalize eff.apply (nb + j) (nr + 4 * j) ⟨ts, bs, rs, ys, pn⟩ = st' at hK ⊢
      obtain ⟨ts', bs', rs', ys', pn'⟩ := st'
      simpa only [setK_eq] using hK
  | some q =>
    obtain ⟨i, want⟩ := q
    rw [hgd] at hd
    simp only at hd ⊢
    obtain ⟨g, hgo, hd⟩ := hd
    have hgt := hg i want hgd
    rw [hgt] at hgo
    cases hgo
    rcases hd with ⟨_, hadd, pre, av0, rfl, htr, hop, hp⟩ | ⟨h, _⟩
    · simp only at hgt
      rw [hgt]
      simp only
      rw [not_dead _ hop]
      simp only [htr]
      cases hne : isNone eff with
      | true =>
        obtain rfl := isNone_eq hne
        simp only
        rw [conjP_iff, conjP_iff, avK_eq]
        refine ⟨hop, fun p hp' => ?_, ?_⟩
        · have : ∀ (l : List Prop), (∀ p ∈ l, p) → ∀ p ∈ impl true l, p := by
            intro l
            induction l with
            | nil => intro _ p h; cases h
            | cons x l ih =>
              intro h p hp
              simp only [impl, List.mem_cons] at hp
              rcases hp with rfl | hp
              · intro _; exact h x (by simp)
              · exact ih (fun q hq => h q (by simp [hq])) p hp
          exact this pre hp p hp'
        · cases hd : o.dst with
          | none => rw [hd] at hK; exact hK
          | some d => rw [hd] at hK; simp only [setK_eq]; exact hK
      | false =>
        simp only [hadd, Bool.not_true, Bool.and_false]
        refine ⟨fun _ => ?_, fun h => by cases h⟩
        rw [conjP_iff, conjP_iff, avK_eq, effK_eq, stK_eq]
        refine ⟨hop, hp, ?_⟩
        cases hd : o.dst with
        | none => rw [hd] at hK; exact hK
        | some d =>
          rw [hd] at hK
          generalize eff.apply (nb + j) (nr + 4 * j) ⟨ts, bs, rs, ys, pn⟩ = st' at hK ⊢
          obtain ⟨ts', bs', rs', ys', pn'⟩ := st'
          simpa only [setK_eq] using hK
    · cases h

def Eff.boxOf : Eff → Option Box
  | .box bx => some bx
  | _ => Option.none
def Eff.rowsOf : Eff → List Row
  | .call _ rs _ _ => rs
  | _ => []
structure Abs (st0 : St) (l : List Oper) (ds : Nat → AV × Eff) (S : Nat → Bool) (st : St) : Prop where
  ys : st.ys = st0.ys
  pin : st.pin = st0.pin
  len : st.tmps.length = st0.tmps.length
  hit : ∀ i t o, S i = true → l[i]? = some o → o.dst = some t → t < st0.tmps.length → getK .any st.tmps t = (ds i).1
  miss : ∀ t, (∀ i o, S i = true → l[i]? = some o → o.dst ≠ some t) → getK .any st.tmps t = getK .any st0.tmps t
  boxOld : ∀ id, id < st0.boxes.length → getK none st.boxes id = getK none st0.boxes id
  boxNew : ∀ i, getK none st.boxes (st0.boxes.length + i) = if S i = true then (ds i).2.boxOf else none
  rowOld : ∀ id, id < st0.rows.length → getK none st.rows id = getK none st0.rows id
  rowNew : ∀ i k, k < 4 → getK none st.rows (st0.rows.length + 4 * i + k) = if S i = true then (ds i).2.rowsOf[k]? else none

theorem apply_adds {fb fr : Nat} {st : St} {eff : Eff} (h : eff.adds = true) : (eff.apply fb fr st).tmps = st.tmps ∧
    (∀ id, getK none (eff.apply fb fr st).boxes id = if id = fb then eff.boxOf.or (getK none st.boxes id) else getK none st.boxes id) ∧
    (∀ id, getK none (eff.apply fb fr st).rows id = if fr ≤ id ∧ id < fr + eff.rowsOf.length then eff.rowsOf[id - fr]? else getK none st.rows id) ∧ eff.rowsOf.length ≤ 4 ∧ (eff.apply fb fr st).ys = st.ys ∧ (eff.apply fb fr st).pin = st.pin := by
  cases eff with
  | none =>
    refine ⟨rfl, fun id => by simp [Eff.apply, Eff.boxOf], fun id => ?_, Nat.zero_le _, rfl, rfl⟩
    rw [if_neg (by show ¬ (fr ≤ id ∧ id < fr + 0); omega)]; rfl
  | box bx =>
    refine ⟨rfl, fun id => by simp [Eff.apply, getK_putAt, Eff.boxOf], fun id => ?_, Nat.zero_le _, rfl, rfl⟩
    rw [if_neg (by show ¬ (fr ≤ id ∧ id < fr + 0); omega)]; rfl
  | call bs rs k sr =>
    cases bs with
    | cons _ _ => simp [Eff.adds] at h
    | nil =>
    cases k with
    | cons _ _ => simp [Eff.adds] at h
    | nil =>
    cases sr with
    | cons _ _ => simp [Eff.adds] at h
    | nil => exact ⟨rfl, fun id => by simp [Eff.apply, Eff.boxOf, overL], fun id => getK_overL _ _ _ _, of_decide_eq_true h, rfl, rfl⟩
  | _ => simp [Eff.adds] at h

theorem Abs.step {st0 st : St} {l : List Oper} {ds : Nat → AV × Eff} {S : Nat → Bool} {j : Nat} {o : Oper} (hA : Abs st0 l ds S st) (hSj : S j = false) (ho : l[j]? = some o)
    (hdist : ∀ i oi d, S i = true → i ≠ j → l[i]? = some oi → oi.dst = some d → o.dst ≠ some d) (hadds : (ds j).2.adds = true) :
    Abs st0 l ds (fun i => S i || i == j) (stepOf st0.boxes.length st0.rows.length j o st (ds j).1 (ds j).2) := by
  obtain ⟨h1, h2, h3, h4, h5, h6⟩ := apply_adds (fb := st0.boxes.length + j) (fr := st0.rows.length + 4 * j) (st := st) hadds
  have hts : (stepOf st0.boxes.length st0.rows.length j o st (ds j).1 (ds j).2).tmps = match o.dst with | some d => st.tmps.set d (ds j).1 | none => st.tmps := by
    unfold stepOf; cases o.dst <;> simp [h1]
  have hbs : (stepOf st0.boxes.length st0.rows.length j o st (ds j).1 (ds j).2).boxes = ((ds j).2.apply (st0.boxes.length + j) (st0.rows.length + 4 * j) st).boxes := by
    unfold stepOf; cases o.dst <;> rfl
  have hrs : (stepOf st0.boxes.length st0.rows.length j o st (ds j).1 (ds j).2).rows = ((ds j).2.apply (st0.boxes.length + j) (st0.rows.length + 4 * j) st).rows := by
    unfold stepOf; cases o.dst <;> rfl
  have hset : ∀ (d t : Nat), getK .any (st.tmps.set d (ds j).1) t = if t = d ∧ d < st.tmps.length then (ds j).1 else getK .any st.tmps t := by
    intro d t
    rw [getK_eq, getK_eq, List.getElem?_set]
    by_cases h : d = t
    · subst h
      by_cases h' : d < st.tmps.length
      · simp [h']
      · simp [h']
    · rw [if_neg h, if_neg (by omega)]
  refine ⟨?_, ?_, ?_, ?_, ?_, ?_, ?_, ?_, ?_⟩
  · rw [← hA.ys, ← h5]; unfold stepOf; cases o.dst <;> rfl
  · rw [← hA.pin, ← h6]; unfold stepOf; cases o.dst <;> rfl
  · rw [hts]; cases o.dst <;> simp [hA.len]
  · intro i t oi hS hoi hd ht
    rw [hts]
    simp only [Bool.or_eq_true, beq_iff_eq] at hS
    by_cases hij : i = j
    · subst hij
      rw [ho] at hoi; cases hoi
      rw [hd]; simp only [hset]
      rw [if_pos ⟨trivial, by rw [hA.len]; exact ht⟩]
    · have hS' : S i = true := by rcases hS with h | h; exact h; exact absurd h hij
      have hne := hdist i oi t hS' hij hoi hd
      have := hA.hit i t oi hS' hoi hd ht
      cases hod : o.dst with
      | none => exact this
      | some d =>
        simp only [hset]
        rw [if_neg (fun h => hne (by rw [hod, h.1]))]
        exact this
  · intro t hmiss
    rw [hts]
    have hm := hA.miss t (fun i oi hS hoi => hmiss i oi (by simp [hS]) hoi)
    cases hod : o.dst with
    | none => exact hm
    | some d =>
      simp only [hset]
      have := hmiss j o (by simp) ho
      rw [if_neg (fun h => this (by rw [hod, h.1]))]
      exact hm
  · intro id hid
    rw [hbs, h2, if_neg (by omega)]
    exact hA.boxOld id hid
  · intro i
    rw [hbs, h2]
    by_cases hij : i = j
    · subst hij
      rw [if_pos rfl, if_pos (by simp)]
      have := hA.boxNew i
      rw [if_neg (by simp [hSj])] at this
      rw [this]; simp
    · rw [if_neg (by omega)]
      have := hA.boxNew i
      rw [this]
      simp [hij]
  · intro id hid
    rw [hrs, h3, if_neg (by omega)]
    exact hA.rowOld id hid
  · intro i k hk
    rw [hrs, h3]
    have := hA.rowNew i k hk
    by_cases hij : i = j
    · subst hij
      rw [if_neg (by simp [hSj])] at this
      have hc : (S i || i == i) = true := by simp
      rw [if_pos hc]
      by_cases hin : k < (ds i).2.rowsOf.length
      · rw [if_pos (by omega)]; congr 1; omega
      · rw [if_neg (by omega), this, List.getElem?_eq_none (by omega)]
    · rw [if_neg (by omega), this]
      simp [hij]

theorem resolveF_agree {st st' : St} {e : Env} {w : World} (hh : HeapOK c e st' w) (hb : ∀ id b b', getK none st.boxes id = some b → getK none st'.boxes id = some b' → b = b') (hr : ∀ id b b', getK none st.rows id = some b → getK none st'.rows id = some b' → b = b') :
    ∀ n : Nat, (∀ v rv x, resolveF st.boxes st.rows n v = some rv → R st' e v x → resolveF st'.boxes st'.rows n v = some rv) ∧ (∀ l m vs, resolveFL st.boxes st.rows n l = some m → RL st' e l vs → resolveFL st'.boxes st'.rows n l = some m) := by
  intro n
  induction n with
  | zero => exact ⟨fun v r x h => by simp [resolveF] at h, fun l m vs h => by simp [resolveFL] at h⟩
  | succ n ih =>
    obtain ⟨ih1, ih2⟩ := ih
    constructor
    · intro v r x h hR
      cases v with
      | box id off =>
        simp only [resolveF] at h ⊢
        obtain ⟨⟨b', hb'⟩, _⟩ := hR
        split at h
        · rename_i T cells own hbb
          obtain rfl := hb id _ b' hbb hb'
          rw [hb']
          split at h
          · rename_i l hl
            obtain ⟨⟨vs, _, h2, _⟩, _⟩ := hh.box id _ hb'
            have := ih2 _ _ _ hl (selfA_RL h2)
            simp only [this]
            exact h
          · cases h
        · cases h
      | row id =>
        simp only [resolveF] at h ⊢
        obtain ⟨⟨b', hb'⟩, _⟩ := hR
        split at h
        · rename_i b hbb
          obtain rfl := hr id b b' hbb hb'
          rw [hb']; exact h
        · cases h
      | elt id ix sub =>
        simp only [resolveF] at h ⊢
        obtain ⟨b', hb', _⟩ := hR
        split at h
        · rename_i b hbb
          obtain rfl := hr id b b' hbb hb'
          rw [hb']; exact h
        · cases h
      | view id lo hi ex =>
        simp only [resolveF] at h ⊢
        obtain ⟨b', hb', _⟩ := hR
        split at h
        · rename_i b hbb
          obtain rfl := hr id b b' hbb hb'
          rw [hb']; exact h
        · cases h
      | arrp id =>
        simp only [resolveF] at h ⊢
        obtain ⟨b', hb', _⟩ := hR
        split at h
        · rename_i b hbb
          obtain rfl := hr id b b' hbb hb'
          rw [hb']; exact h
        · cases h
      | fn f l =>
        simp only [resolveF] at h ⊢
        obtain ⟨vs, _, hl⟩ := hR
        split at h
        · rename_i m hm; rw [ih2 _ _ _ hm hl]; exact h
        · cases h
      | agg l =>
        simp only [resolveF] at h ⊢
        obtain ⟨vs, _, hl⟩ := hR
        split at h
        · rename_i m hm; rw [ih2 _ _ _ hm hl]; exact h
        · cases h
      | tup l =>
        simp only [resolveF] at h ⊢
        obtain ⟨vs, _, hl⟩ := hR
        split at h
        · rename_i m hm; rw [ih2 _ _ _ hm hl]; exact h
        · cases h
      | _ => simpa only [resolveF] using h
    · intro l m vs h hR
      cases l with
      | nil => simpa only [resolveFL] using h
      | cons x l =>
        simp only [resolveFL] at h ⊢
        obtain ⟨v, vs', _, h1, h2⟩ := hR
        split at h
        · rename_i r hx
          rw [ih1 _ _ _ hx h1]
          split at h
          · rename_i rs hl
            simp only
            rw [ih2 _ _ _ hl h2]; exact h
          · cases h
        · cases h
theorem resolve_agree {st st' : St} {e : Env} {w : World} (hh : HeapOK c e st' w) (hb : ∀ id b b', getK none st.boxes id = some b → getK none st'.boxes id = some b' → b = b') (hr : ∀ id b b', getK none st.rows id = some b → getK none st'.rows id = some b' → b = b')
    (v : AV) (rv : RV) (x : Value) (h : resolve st v = some rv) (hR : R st' e v x) : resolve st' v = some rv := (resolveF_agree hh hb hr 200).1 v rv x h hR
theorem look_agree {st st' : St} {e : Env} (hb : ∀ id b b', getK none st.boxes id = some b → getK none st'.boxes id = some b' → b = b') (hr : ∀ id b b', getK none st.rows id = some b → getK none st'.rows id = some b' → b = b')
    (v : AV) (rv : SV) (x : Value) (h : look st v = some rv) (hR : R st' e v x) : look st' v = some rv := by
  cases v with
  | box id off =>
    simp only [look] at h ⊢
    obtain ⟨⟨b', hb'⟩, _⟩ := hR
    split at h
    · rename_i b hbb
      obtain rfl := hb id b b' hbb hb'
      rw [hb']; exact h
    · cases h
  | row id =>
    simp only [look] at h ⊢
    obtain ⟨⟨b', hb'⟩, _⟩ := hR
    split at h
    · rename_i b hbb
      obtain rfl := hr id b b' hbb hb'
      rw [hb']; exact h
    · cases h
  | elt id ix sub =>
    simp only [look] at h ⊢
    obtain ⟨b', hb', _⟩ := hR
    split at h
    · rename_i b hbb
      obtain rfl := hr id b b' hbb hb'
      rw [hb']; exact h
    · cases h
  | view id lo hi ex =>
    simp only [look] at h ⊢
    obtain ⟨b', hb', _⟩ := hR
    split at h
    · rename_i b hbb
      obtain rfl := hr id b b' hbb hb'
      rw [hb']; exact h
    · cases h
  | arrp id =>
    simp only [look] at h ⊢
    obtain ⟨b', hb', _⟩ := hR
    split at h
    · rename_i b hbb
      obtain rfl := hr id b b' hbb hb'
      rw [hb']; exact h
    · cases h
  | _ => simpa only [look] using h

theorem RL_mem {st : St} {e : Env} {l : List AV} {vs : List Value} (h : RL st e l vs) : ∀ v ∈ l, ∃ x, R st e v x := by
  induction l generalizing vs with
  | nil => intro v hv; cases hv
  | cons y l ih =>
    obtain ⟨x, vs', _, h1, h2⟩ := h
    intro v hv
    rcases List.mem_cons.1 hv with rfl | hv
    · exact ⟨x, h1⟩
    · exact ih h2 v hv

theorem guardOf_congr {ts ts' : List AV} {j : Nat} {want : Bool} (h : ∀ o t, ops.toList[j]? = some o → o.dst = some t → getK .any ts t = getK .any ts' t) : guardOf ops ts j want = guardOf ops ts' j want := by
  unfold guardOf
  cases ho : ops.toList[j]? with
  | none => rfl
  | some o =>
    simp only
    cases ht : o.dst with
    | none => rfl
    | some t => simp only; rw [h o t ho ht]

theorem looks_operand {o : Oper} {t : Tmp} (h : Operand.tmp t ∈ o.op.operands.toList) : t ∈ o.looksAt ops := by
  unfold Oper.looksAt
  exact List.mem_append_left _ (List.mem_filterMap.2 ⟨_, h, rfl⟩)
theorem looks_guard {o og : Oper} {t : Tmp} {i : Nat} {want : Bool} (hg : o.guard = some (i, want)) (ho : ops.toList[i]? = some og) (ht : og.dst = some t) : t ∈ o.looksAt ops := by
  unfold Oper.looksAt
  refine List.mem_append_right _ ?_
  have : ops[i]? = some og := by simpa using ho
  simp [hg, this, ht]

theorem optOf_congr {op : Op} {ts ts' : List AV} {g : Bool} {l : List Operand} (h : ∀ x ∈ l, opnd ts x = opnd ts' x) : optOfN op ts g l = optOfN op ts' g l := by
  induction l with
  | nil => rfl
  | cons x l ih => simp only [optOfN, h x (by simp), ih (fun y hy => h y (by simp [hy]))]
theorem step_any {j : Nat} {o : Oper} {st stt : St} {e : Env} {a : Act} {w : World} {av : AV} {eff : Eff} (hTT : TTOK P TT) (hC : ∀ f con, C f = some con → ConOK P G f con) (hgood : ∀ w, Frame c w → G c.g0 w) (hY : YOK P c Y)
    (hd : Data TT C Y ops nb nr j o stt av eff) (htmps : ∀ t, t ∈ o.looksAt ops → getK .any st.tmps t = getK .any stt.tmps t) (hys : st.ys = stt.ys)
    (hb : ∀ id b b', getK none stt.boxes id = some b → getK none st.boxes id = some b' → b = b') (hr : ∀ id b b', getK none stt.rows id = some b → getK none st.rows id = some b' → b = b')
    (hh : HeapOK c e st w) (ht : TmpsOK c st e a) (hfb : getK none st.boxes (nb + j) = none) (hfr : ∀ i, nr + 4 * j ≤ i → i < nr + 4 * j + 4 → getK none st.rows i = none)
    {K' : Act → World → Prop} {Q : Exit → Act → World → Prop} (hK : ∀ e' a' w', HeapOK c e' (stepOf nb nr j o st av eff) w' → TmpsOK c (stepOf nb nr j o st av eff) e' a' → K' a' w') :
    if Region.wanted o (yielded ops a.tmps) then o.wpIn (W c.r) 0 P a w K' Q else K' (a.put o.dst undef) w := by
  have hop : ∀ x ∈ o.op.operands.toList, opnd st.tmps x = opnd stt.tmps x := fun x hx => by
    cases x with
    | tmp t => exact htmps t (looks_operand hx)
    | _ => rfl
  have go : Data TT C Y ops nb nr j o st av eff → (∀ i want, o.guard = some (i, want) → guardOf ops st.tmps i want = some true) → if Region.wanted o (yielded ops a.tmps) then o.wpIn (W c.r) 0 P a w K' Q else K' (a.put o.dst undef) w := fun hd' hg' =>
    vcOp_sound (add := true) (fb := nb + j) (fr := nr + 4 * j) (K := fun s => s = stepOf nb nr j o st av eff) hTT hC hgood hY hh ht (fun i h1 h2 => (Nat.le_antisymm h1 (Nat.le_of_lt_succ (h2 rfl))) ▸ hfb) (fun i h1 h2 => hfr i h1 (h2 rfl)) (data_vcOp hd' rfl hg') (fun st' e' a' w' h1 h2 h3 => by subst h3; exact hK e' a' w' h1 h2)
  unfold Data at hd
  cases hg : o.guard with
  | none =>
    rw [hg] at hd
    obtain ⟨h1, pre, h2, h3⟩ := hd
    refine go ?_ (fun i want h => by rw [hg] at h; cases h)
    unfold Data
    rw [hg, hys]
    refine ⟨h1, pre, tr_local hop (fun x hx rv hrv => ?_) (fun x hx rv hrv => ?_) (fun x hx g caps hx' v hv rv hrv => ?_) h2, h3⟩
    · have := opnd_R ht x
      rw [hop x hx] at this
      exact look_agree hb hr _ _ _ hrv this
    · have := opnd_R ht x
      rw [hop x hx] at this
      exact resolve_agree hh hb hr _ _ _ hrv this
    · have := opnd_R ht x
      rw [hop x hx, hx'] at this
      obtain ⟨vs, _, hl⟩ := this
      obtain ⟨u, hu⟩ := RL_mem hl v hv
      exact resolve_agree hh hb hr _ _ _ hrv hu
  | some q =>
    obtain ⟨i, want⟩ := q
    rw [hg] at hd
    obtain ⟨g, h1, hd⟩ := hd
    have hgo : guardOf ops st.tmps i want = some g := by
      rw [← h1]; exact guardOf_congr fun og t ho ht' => htmps t (looks_guard hg ho ht')
    rcases hd with ⟨rfl, hadd, pre, av0, rfl, h2, h3, h4⟩ | ⟨rfl, rfl, av0, rfl⟩
    · have hopt : optOfN o.op st.tmps true o.op.operands.toList = optOfN o.op stt.tmps true o.op.operands.toList := optOf_congr hop
      refine go ?_ (fun i' want' h => by rw [hg] at h; cases h; exact hgo)
      unfold Data
      rw [hg, hys]
      have hR : ∀ x ∈ o.op.operands.toList, R st e (unoptN (needs o.op x) true (opnd stt.tmps x)).2 (a.eval x) := fun x hx => by
        have h5 := unoptN_R (g := true) (opnd_R ht x) rfl (optOfN_spec (by rw [hopt]; exact h3) x hx)
        rwa [hop x hx] at h5
      refine ⟨true, hgo, .inl ⟨rfl, hadd, pre, av0, rfl, tr_local (fun x hx => by rw [hop x hx]) (fun x hx rv hrv => ?_) (fun x hx rv hrv => ?_) (fun x hx g' caps hx' v hv rv hrv => ?_) h2, by rw [hopt]; exact h3, h4⟩⟩
      · exact look_agree hb hr _ _ _ hrv (hR x hx)
      · exact resolve_agree hh hb hr _ _ _ hrv (hR x hx)
      · have h5 := hR x hx
        rw [hx'] at h5
        obtain ⟨vs, _, hl⟩ := h5
        obtain ⟨u, hu⟩ := RL_mem hl v hv
        exact resolve_agree hh hb hr _ _ _ hrv hu
    · have hw := guardOf_spec (o := o) ht hg hgo
      rw [hw, if_neg (by simp)]
      unfold stepOf at hK
      obtain ⟨ts, bs, rs, ys, pn⟩ := st
      cases hdst : o.dst with
      | none => rw [hdst] at hK; exact hK e _ w hh ht
      | some d =>
        rw [hdst] at hK
        exact hK e _ w (HeapOK_tmps hh) (put_ok (st' := ⟨ts, bs, rs, ys, pn⟩) (av := .opt false av0) ht.1 ht.2 ⟨fun h => (by cases h), fun _ => rfl⟩)

def E (C : Nat → Option Con) (ops : Array Oper) (i : Nat) : Bool := getK false (elOf C ops.toList) i
def waits (ops : Array Oper) (j i : Nat) : Bool := ((masks [] ops.toList).getD j 0).testBit i
def Fl (C : Nat → Option Con) (ops : Array Oper) (i : Nat) : Bool := floatB (masks [] ops.toList) (elOf C ops.toList) i
def Sk (C : Nat → Option Con) (ops : Array Oper) (k i : Nat) : Bool := E C ops i && decide (i < k)

structure DrawFacts (C : Nat → Option Con) (ops : Array Oper) : Prop where
  edge : ∀ (j : Nat) (o : Oper), ops.toList[j]? = some o → ∀ e ∈ o.after.toList, Region.binds .any e = true → e.on < j
  pre : ∀ (j : Nat) (o : Oper), ops.toList[j]? = some o → E C ops j = true → ∀ (i : Nat) (oi : Oper) (d : Tmp), E C ops i = true → ops.toList[i]? = some oi → oi.dst = some d → i ≠ j →
    o.dst ≠ some d ∧ (d ∉ o.looksAt ops ∨ (i < j ∧ waits ops j i = true) ∨ (j < i ∧ waits ops i j = true))
  flo : ∀ (j : Nat) (o : Oper), ops.toList[j]? = some o → Fl C ops j = true → o.guard = none ∧ pureOp o.op = true ∧ (∃ d, o.dst = some d) ∧
    ∀ (i : Nat) (oi : Oper) (d : Tmp), E C ops i = true → ops.toList[i]? = some oi → oi.dst = some d → d ∉ o.looksAt ops ∨ (i ≠ j ∧ waits ops j i = true)
  late : ∀ (j : Nat) (o : Oper), ops.toList[j]? = some o → E C ops j = false → ∀ i, i < ops.toList.length → i ≠ j → waits ops j i = true ∨
    (E C ops i = true ∧ ∀ (oi : Oper) (d : Tmp), ops.toList[i]? = some oi → oi.dst = some d → o.dst ≠ some d ∧ d ∉ o.looksAt ops) ∨ (E C ops i = false ∧ j < i)

theorem Fl_E {C : Nat → Option Con} {ops : Array Oper} {i : Nat} (h : Fl C ops i = true) : E C ops i = true := by
  unfold Fl floatB at h; simp only [Bool.and_eq_true] at h; exact h.1
theorem getKD {α : Type} (d : α) (l : List α) (n : Nat) : getK d l n = l.getD n d := by
  rw [getK_eq, List.getD_eq_getElem?_getD]
theorem revA_length {α : Type} (l : List α) : ∀ acc, (revA l acc).length = l.length + acc.length := by
  induction l with
  | nil => intro acc; simp [revA]
  | cons x l ih => intro acc; simp only [revA, ih, List.length_cons]; omega
theorem earlyT_length (C : Nat → Option Con) (l : List Oper) : ∀ n acc, (earlyT C l n acc).length = l.length + acc.length := by
  induction l with
  | nil => intro n acc; simp [earlyT, revA_length]
  | cons o l ih =>
    intro n acc
    simp only [earlyT]
    split
    · rw [ih]; simp only [List.length_cons]; omega
    · split <;> (rw [ih]; simp only [List.length_cons]; omega)
theorem elOf_length (C : Nat → Option Con) (l : List Oper) : (elOf C l).length = l.length := by
  unfold elOf; rw [earlyT_length]; simp
theorem boolLK_eq (l : List Bool) (k : List Bool → Prop) : boolLK l k = k l := by
  induction l generalizing k with
  | nil => rfl
  | cons b l ih =>
    show (match b with | true => boolLK l fun l => k (true :: l) | false => boolLK l fun l => k (false :: l)) = _
    cases b <;> simp [ih]
theorem natF_eq {α : Type} (n : Nat) (k : Nat → α) : natF n k = k n := by cases n <;> rfl
theorem snocF_eq {α : Type} (acc : List Nat) (m : Nat) (k : List Nat → α) : snocF acc m k = k (acc ++ [m]) := by
  induction acc generalizing k with
  | nil => rfl
  | cons x l ih => simp [snocF, ih]
theorem masksT_eq (l : List Oper) : ∀ acc, masksT l acc = masks acc l := by
  induction l with
  | nil => intro acc; rfl
  | cons o l ih => intro acc; simp only [masksT, natF_eq, snocF_eq, ih, masks]
theorem allT_get {l : List Bool} (h : allT l = true) : ∀ i, i < l.length → getK false l i = true := by
  induction l with
  | nil => intro i hi; simp at hi
  | cons b l ih =>
    cases b with
    | false => simp [allT] at h
    | true => intro i hi; cases i with
      | zero => rfl
      | succ i => exact ih (by simpa [allT] using h) i (by simpa using hi)
theorem E_lt {C : Nat → Option Con} {ops : Array Oper} {i : Nat} (h : E C ops i = true) : i < ops.toList.length := by
  rcases Nat.lt_or_ge i ops.toList.length with h' | h'
  · exact h'
  · unfold E at h; rw [getK_length _ _ _ (by rw [elOf_length]; exact h')] at h; cases h
theorem Fl_of {C : Nat → Option Con} {ops : Array Oper} {i j : Nat} (hi : E C ops i = true) (hj : E C ops j = false) (hjl : j < ops.toList.length) (hb : waits ops j i = false) : Fl C ops i = true := by
  unfold Fl floatB
  rw [show getK false (elOf C ops.toList) i = true from hi, Bool.true_and, List.any_eq_true]
  refine ⟨j, by rw [List.mem_range, masks_length]; simpa using hjl, ?_⟩
  rw [show getK false (elOf C ops.toList) j = false from hj, getKD, show ((masks [] ops.toList).getD j 0).testBit i = false from hb]; rfl

theorem drawOk_facts (h : drawOk C ops = true) : DrawFacts C ops := by
  unfold drawOk at h
  simp only [List.all_eq_true, List.mem_range, getKD 0] at h
  have key : ∀ (j : Nat) (o : Oper), ops.toList[j]? = some o → j < ops.toList.length := fun j o ho => (List.getElem?_eq_some_iff.1 ho).1
  refine ⟨fun j o ho e he hb => ?_, fun j o ho hE i oi d hi hoi hd hne => ?_, fun j o ho hF => ?_, fun j o ho hE i hi hne => ?_⟩
  · have := h j (key j o ho)
    rw [ho] at this
    simp only [Bool.and_eq_true, List.all_eq_true] at this
    have := this.1 e he
    simpa [hb] using this
  · have := h j (key j o ho)
    rw [ho] at this
    simp only [Bool.and_eq_true] at this
    have h2 := this.2
    rw [if_pos (show getK false (elOf C ops.toList) j = true from hE)] at h2
    have h3 := ((Bool.and_eq_true _ _).mp h2).1
    simp only [List.all_eq_true, List.mem_range] at h3
    have h4 := h3 i (E_lt hi)
    rw [show getK false (elOf C ops.toList) i = true from hi, hoi] at h4
    simp only [hd] at h4
    have hij : (i == j) = false := by simpa using hne
    rw [hij] at h4
    simp only [Bool.not_true, Bool.false_or, Bool.and_eq_true, Bool.or_eq_true, bne_iff_ne, ne_eq, Bool.not_eq_true', decide_eq_true_eq] at h4
    refine ⟨h4.1, ?_⟩
    rcases h4.2 with (h5 | h5) | h5
    · exact .inl (by simpa using h5)
    · exact .inr (.inl h5)
    · exact .inr (.inr h5)
  · have hE := Fl_E hF
    have := h j (key j o ho)
    rw [ho] at this
    simp only [Bool.and_eq_true] at this
    have h2 := this.2
    rw [if_pos (show getK false (elOf C ops.toList) j = true from hE)] at h2
    have h3 := ((Bool.and_eq_true _ _).mp h2).2
    rw [show floatB (masks [] ops.toList) (elOf C ops.toList) j = true from hF] at h3
    simp only [Bool.not_true, Bool.false_or, Bool.and_eq_true, List.all_eq_true, List.mem_range, Option.isNone_iff_eq_none] at h3
    obtain ⟨⟨⟨h4, h5⟩, h6⟩, h7⟩ := h3
    refine ⟨h4, h5, Option.isSome_iff_exists.1 h6, fun i oi d hi hoi hd => ?_⟩
    have h8 := h7 i (E_lt hi)
    rw [show getK false (elOf C ops.toList) i = true from hi, hoi] at h8
    simp only [hd, Bool.not_true, Bool.false_or, Bool.or_eq_true, Bool.and_eq_true, bne_iff_ne, ne_eq] at h8
    rcases h8 with h8 | h8
    · exact .inl (by simpa using h8)
    · exact .inr h8
  · have := h j (key j o ho)
    rw [ho] at this
    simp only [Bool.and_eq_true] at this
    have h2 := this.2
    rw [if_neg (by rw [show getK false (elOf C ops.toList) j = false from hE]; simp)] at h2
    simp only [List.all_eq_true, List.mem_range] at h2
    have h3 := h2 i hi
    have hij : (i == j) = false := by simpa using hne
    rw [hij] at h3
    simp only [Bool.false_or, Bool.or_eq_true] at h3
    rcases h3 with h3 | h3
    · exact .inl h3
    · right
      cases hEi : E C ops i with
      | true =>
        rw [if_pos (show getK false (elOf C ops.toList) i = true from hEi)] at h3
        refine .inl ⟨rfl, fun oi d hoi hd => ?_⟩
        rw [hoi] at h3
        simp only [hd, Bool.and_eq_true, bne_iff_ne, ne_eq, Bool.not_eq_true'] at h3
        exact ⟨h3.1, by simpa using h3.2⟩
      | false =>
        rw [if_neg (by rw [show getK false (elOf C ops.toList) i = false from hEi]; simp)] at h3
        exact .inr ⟨rfl, of_decide_eq_true h3⟩
theorem vcPre_chain {st0 : St} {K : St → Prop} (hf : DrawFacts C ops) : ∀ (k : Nat) (l : List Oper) (el : List Bool) (st : St) (ds : Nat → AV × Eff), l = ops.toList.drop k → el = (elOf C ops.toList).drop k → Abs st0 ops.toList ds (Sk C ops k) st →
    (∀ j, j < k → E C ops j = true → ∃ o stt, ops.toList[j]? = some o ∧ Abs st0 ops.toList ds (Sk C ops j) stt ∧ Data TT C Y ops st0.boxes.length st0.rows.length j o stt (ds j).1 (ds j).2) →
    vcPre TT C Y ops st0.boxes.length st0.rows.length k l el st K →
    ∃ ds' stn, (∀ j, E C ops j = true → ∃ o stt, ops.toList[j]? = some o ∧ Abs st0 ops.toList ds' (Sk C ops j) stt ∧ Data TT C Y ops st0.boxes.length st0.rows.length j o stt (ds' j).1 (ds' j).2) ∧ Abs st0 ops.toList ds' (E C ops) stn ∧ K stn := by
  intro k l
  induction l generalizing k with
  | nil =>
    intro el st ds hl _ hA hD hv
    have hlen : ops.toList.length ≤ k := by
      have : (ops.toList.drop k).length = 0 := by rw [← hl]; rfl
      rw [List.length_drop] at this
      omega
    have hS : Sk C ops k = E C ops := by
      funext i
      unfold Sk
      cases h : E C ops i with
      | false => rfl
      | true => have := E_lt h; simp; omega
    rw [hS] at hA
    exact ⟨ds, st, fun j hE => hD j (by have := E_lt hE; omega) hE, hA, hv⟩
  | cons o l ih =>
    intro el st ds hl hel hA hD hv
    have hklt : k < ops.toList.length := by
      rcases Nat.lt_or_ge k ops.toList.length with h | h
      · exact h
      · rw [List.drop_eq_nil_of_le h] at hl; cases hl
    have hdrop : ops.toList.drop k = ops.toList[k] :: ops.toList.drop (k + 1) := List.drop_eq_getElem_cons hklt
    rw [hdrop] at hl
    injection hl with hl1 hl2
    have hok : ops.toList[k]? = some o := by rw [List.getElem?_eq_getElem hklt, hl1]
    have hkel : k < (elOf C ops.toList).length := by rw [elOf_length]; exact hklt
    rw [List.drop_eq_getElem_cons hkel] at hel
    have hEk : E C ops k = (elOf C ops.toList)[k] := by unfold E; rw [getK_eq, List.getElem?_eq_getElem hkel]; rfl
    subst hel
    rw [← hEk] at hv
    change (match E C ops k :: (elOf C ops.toList).drop (k + 1) with
      | [] => False
      | false :: el => vcPre TT C Y ops st0.boxes.length st0.rows.length (k + 1) l el st K
      | true :: el => vcOp TT C Y true (st0.boxes.length + k) (st0.rows.length + 4 * k) ops o st fun st' => vcPre TT C Y ops st0.boxes.length st0.rows.length (k + 1) l el st' K) at hv
    cases hE : E C ops k with
    | false =>
      rw [hE] at hv
      have hS : Sk C ops k = Sk C ops (k + 1) := by
        funext i
        unfold Sk
        by_cases hi : i = k
        · subst hi; rw [hE]; simp
        · cases E C ops i <;> simp; omega
      rw [hS] at hA
      exact ih (k + 1) _ st ds hl2 rfl hA (fun j hj hEj => hD j (by
        rcases Nat.lt_or_ge j k with h | h
        · exact h
        · have : j = k := by omega
          subst this; rw [hE] at hEj; cases hEj) hEj) hv
    | true =>
    rw [hE] at hv
    obtain ⟨av, eff, hdat, hv⟩ := vcOp_data hv
    let ds' : Nat → AV × Eff := fun i => if i = k then (av, eff) else ds i
    have hds : ∀ i, i ≠ k → ds' i = ds i := fun i hi => by simp [ds', hi]
    have hSk : ∀ m, m ≤ k → ∀ i, Sk C ops m i = true → i ≠ k := fun m hm i hS => by
      unfold Sk at hS; simp at hS; omega
    have hAbs : ∀ (m : Nat) (s : St), m ≤ k → Abs st0 ops.toList ds (Sk C ops m) s → Abs st0 ops.toList ds' (Sk C ops m) s := by
      intro m s hm hs
      refine ⟨hs.ys, hs.pin, hs.len, fun i t oi hS hoi hd ht => ?_, hs.miss, hs.boxOld, fun i => ?_, hs.rowOld, fun i q hq => ?_⟩
      · rw [hds i (hSk m hm i hS)]; exact hs.hit i t oi hS hoi hd ht
      · rw [hs.boxNew i]
        cases hS : Sk C ops m i with
        | false => rfl
        | true => rw [hds i (hSk m hm i hS)]
      · rw [hs.rowNew i q hq]
        cases hS : Sk C ops m i with
        | false => rfl
        | true => rw [hds i (hSk m hm i hS)]
    have hadds : eff.adds = true := by
      unfold Data at hdat
      cases hg : o.guard with
      | none => rw [hg] at hdat; exact hdat.1
      | some q =>
        obtain ⟨i, want⟩ := q; rw [hg] at hdat
        obtain ⟨g, _, h⟩ := hdat
        rcases h with ⟨_, h, _⟩ | ⟨_, rfl, _⟩
        · exact h
        · rfl
    have hdk : ds' k = (av, eff) := by simp [ds']
    have hstep := (hAbs k st (Nat.le_refl _) hA).step (j := k) (by unfold Sk; simp) hok (fun i oi d hS hne hoi hd => (hf.pre k o hok hE i oi d (by unfold Sk at hS; simp at hS; exact hS.1) hoi hd hne).1) (by rw [hdk]; exact hadds)
    rw [hdk] at hstep
    have hS : (fun i => Sk C ops k i || i == k) = Sk C ops (k + 1) := by
      funext i
      unfold Sk
      by_cases hi : i = k
      · subst hi; rw [hE]; simp
      · have : (i == k) = false := by simpa using hi
        rw [this]
        cases E C ops i <;> simp; omega
    rw [hS] at hstep
    refine ih (k + 1) _ _ ds' hl2 rfl hstep (fun j hj hEj => ?_) hv
    by_cases hjk : j = k
    · subst hjk
      exact ⟨o, st, hok, hAbs _ _ (Nat.le_refl _) hA, by rw [hdk]; exact hdat⟩
    · obtain ⟨oj, stt, h1, h2, h3⟩ := hD j (by omega) hEj
      exact ⟨oj, stt, h1, hAbs _ _ (by omega) h2, by rw [hds j hjk]; exact h3⟩

theorem abs_tmp {st0 st st' : St} {l : List Oper} {ds : Nat → AV × Eff} {S S' : Nat → Bool} {t : Tmp} (h : Abs st0 l ds S st) (h' : Abs st0 l ds S' st')
    (hS : ∀ i o, l[i]? = some o → o.dst = some t → S i = S' i) : getK .any st.tmps t = getK .any st'.tmps t := by
  by_cases ht : t < st0.tmps.length
  · by_cases hex : ∃ i o, S i = true ∧ l[i]? = some o ∧ o.dst = some t
    · obtain ⟨i, o, h2, h3, h4⟩ := hex
      rw [h.hit i t o h2 h3 h4 ht, h'.hit i t o (by rw [← hS i o h3 h4]; exact h2) h3 h4 ht]
    · rw [h.miss t (fun i o h2 h3 h4 => hex ⟨i, o, h2, h3, h4⟩), h'.miss t (fun i o h2 h3 h4 => hex ⟨i, o, by rw [hS i o h3 h4]; exact h2, h3, h4⟩)]
  · rw [getK_length _ _ _ (by rw [h.len]; exact Nat.le_of_not_lt ht), getK_length _ _ _ (by rw [h'.len]; exact Nat.le_of_not_lt ht)]

theorem abs_box {st0 st st' : St} {l : List Oper} {ds : Nat → AV × Eff} {S S' : Nat → Bool} (h : Abs st0 l ds S st) (h' : Abs st0 l ds S' st') (id : Nat) (b b' : Box)
    (hb : getK none st.boxes id = some b) (hb' : getK none st'.boxes id = some b') : b = b' := by
  by_cases hid : id < st0.boxes.length
  · rw [h.boxOld id hid] at hb; rw [h'.boxOld id hid] at hb'
    rw [hb] at hb'; exact Option.some.inj hb'
  · obtain ⟨i, rfl⟩ : ∃ i, id = st0.boxes.length + i := ⟨id - st0.boxes.length, by omega⟩
    rw [h.boxNew] at hb; rw [h'.boxNew] at hb'
    split at hb
    · split at hb'
      · rw [hb] at hb'; exact Option.some.inj hb'
      · cases hb'
    · cases hb
theorem abs_row {st0 st st' : St} {l : List Oper} {ds : Nat → AV × Eff} {S S' : Nat → Bool} (h : Abs st0 l ds S st) (h' : Abs st0 l ds S' st') (id : Nat) (b b' : Row)
    (hb : getK none st.rows id = some b) (hb' : getK none st'.rows id = some b') : b = b' := by
  by_cases hid : id < st0.rows.length
  · rw [h.rowOld id hid] at hb; rw [h'.rowOld id hid] at hb'
    rw [hb] at hb'; exact Option.some.inj hb'
  · obtain ⟨i, k, hk, rfl⟩ : ∃ i k, k < 4 ∧ id = st0.rows.length + 4 * i + k := ⟨(id - st0.rows.length) / 4, (id - st0.rows.length) % 4, by omega, by omega⟩
    rw [h.rowNew i k hk] at hb; rw [h'.rowNew i k hk] at hb'
    split at hb
    · split at hb'
      · rw [hb] at hb'; exact Option.some.inj hb'
      · cases hb'
    · cases hb
def Shut (ops : Array Oper) (S : Nat → Bool) : Prop := ∀ (j : Nat) (o : Oper), S j = true → ops.toList[j]? = some o → ∀ e ∈ o.after.toList, Region.binds .any e = true → S e.on = true

theorem shut_mask {S : Nat → Bool} (h : Shut ops S) : ∀ (j : Nat), S j = true → ∀ k, ((masks [] ops.toList).getD j 0).testBit k = true → S k = true := by
  intro j
  induction j using Nat.strongRecOn with
  | ind j ih =>
    intro hj k hk
    rcases Nat.lt_or_ge j ops.toList.length with hlt | hge
    · have ho := List.getElem?_eq_getElem hlt
      have := masks_bit ops.toList [] j k _ ho (by simpa using hk)
      simp only [List.length_nil, Nat.zero_add] at this
      obtain ⟨e, he, hb, hor⟩ := this
      have hS := h j _ hj ho e he hb
      rcases hor with rfl | ⟨hlt', hbit⟩
      · exact hS
      · exact ih e.on hlt' hS k hbit
    · have : (masks [] ops.toList).getD j 0 = 0 := by
        rw [List.getD_eq_getElem?_getD, List.getElem?_eq_none (by rw [masks_length]; simpa using hge)]; rfl
      rw [this] at hk; simp at hk
theorem ready_mask {S : Nat → Bool} (h : Shut ops S) {j : Nat} {o : Oper} (ho : ops.toList[j]? = some o) (hr : ∀ e ∈ o.after.toList, Region.binds .any e = true → S e.on = true) (k : Nat) (hk : ((masks [] ops.toList).getD j 0).testBit k = true) : S k = true := by
  have := masks_bit ops.toList [] j k _ ho (by simpa using hk)
  simp only [List.length_nil, Nat.zero_add] at this
  obtain ⟨e, he, hb, hor⟩ := this
  rcases hor with rfl | ⟨_, hbit⟩
  · exact hr e he hb
  · exact shut_mask h e.on (hr e he hb) k hbit

theorem wpOp_of {P : Program} {F : Fence} {ops : Array Oper} {Q : Exit → Act → World → Prop} {j : Nat} {o : Oper} {K : Act → World → Prop} {a : Act} {w : World} (hF : ∀ f, F.fn f) (ho : ops[j]? = some o)
    (h : if Region.wanted o (yielded ops a.tmps) then o.wpIn F 0 P a w K Q else K (a.put o.dst undef) w) : wpOpIn F 0 P ops Q j K a w := by
  unfold wpOpIn
  rw [ho]
  simp only
  split
  · rename_i hw; rw [if_pos hw] at h; exact h
  · rename_i hw; rw [if_neg hw] at h; exact ⟨fun f _ => hF f, h⟩

theorem HeapOK_drawn {e : Env} {st : St} {w : World} (h : HeapOK c e st w) (d : Nat) : HeapOK c e st { w with drawn := d } :=
  ⟨⟨h.frame.os, h.frame.tape, h.frame.output, h.frame.size, h.frame.block⟩, h.box, h.row, h.injB, h.injR, h.apart, c.Jst _ _ _ _ h.out rfl rfl rfl (Nat.le_refl _) (fun k hk => rfl), h.defd, h.defm, h.mwr, h.yl, h.nd, h.pin⟩

def anyAt (U : Nat → Bool) : List AV → Nat → List AV
  | [], _ => []
  | x :: l, i => (if U i = true then .any else x) :: anyAt U l (i + 1)
def hide (U : Nat → Bool) (st : St) : St := ⟨anyAt U st.tmps 0, st.boxes, st.rows, st.ys, st.pin⟩

theorem anyAt_length (U : Nat → Bool) (l : List AV) : ∀ k, (anyAt U l k).length = l.length := by
  induction l with
  | nil => intro k; rfl
  | cons x l ih => intro k; simp [anyAt, ih]
theorem anyAt_get (U : Nat → Bool) (l : List AV) : ∀ k i, getK .any (anyAt U l k) i = if U (k + i) = true then .any else getK .any l i := by
  induction l with
  | nil => intro k i; simp [anyAt, getK]
  | cons x l ih =>
    intro k i
    cases i with
    | zero => simp [anyAt, getK]
    | succ i => simp only [anyAt, getK, ih]; rw [show k + 1 + i = k + (i + 1) by omega]
theorem anyAt_none {U : Nat → Bool} (h : ∀ t, U t = false) (l : List AV) : ∀ k, anyAt U l k = l := by
  induction l with
  | nil => intro k; rfl
  | cons x l ih => intro k; simp [anyAt, h, ih]
theorem hide_none {U : Nat → Bool} (h : ∀ t, U t = false) (st : St) : hide U st = st := by
  cases st; simp [hide, anyAt_none h]
theorem sweep_any (ids : List Nat) : sweep ids .any = .any := by simp [sweep, AV.hits]
theorem anyAt_map (U : Nat → Bool) (ids : List Nat) (l : List AV) : ∀ k, mapK (sweep ids) (anyAt U l k) = anyAt U (mapK (sweep ids) l) k := by
  induction l with
  | nil => intro k; rfl
  | cons x l ih =>
    intro k
    simp only [anyAt, mapK, ih]
    split
    · rw [sweep_any]
    · rfl
theorem anyAt_set (U : Nat → Bool) (av : AV) (l : List AV) : ∀ k d, U (k + d) = false → (anyAt U l k).set d av = anyAt U (l.set d av) k := by
  induction l with
  | nil => intro k d _; rfl
  | cons x l ih =>
    intro k d h
    cases d with
    | zero => simp only [Nat.add_zero] at h; simp [anyAt, h]
    | succ d => simp only [anyAt, List.set_cons_succ]; rw [ih (k + 1) d (by rw [← h]; congr 1; omega)]
theorem anyAt_fill {U U' : Nat → Bool} (l : List AV) : ∀ k d, (∀ t, U' t = (U t && t != k + d)) → (anyAt U l k).set d (getK .any l d) = anyAt U' l k := by
  induction l with
  | nil => intro k d _; rfl
  | cons x l ih =>
    intro k d h
    cases d with
    | zero =>
      simp only [anyAt, List.set_cons_zero, getK]
      rw [show U' k = false by rw [h k]; simp]
      have : ∀ (l : List AV) (j : Nat), k < j → anyAt U l j = anyAt U' l j := by
        intro l
        induction l with
        | nil => intro j _; rfl
        | cons y l ih2 => intro j hj; simp only [anyAt]; rw [ih2 (j + 1) (by omega), h j, show (j != k + 0) = true by simp; omega, Bool.and_true]
      rw [this l (k + 1) (by omega)]; rfl
    | succ d =>
      simp only [anyAt, List.set_cons_succ, getK]
      rw [ih (k + 1) d (fun t => by rw [h t]; congr 2; omega), h k, show (k != k + (d + 1)) = true by simp, Bool.and_true]
theorem RL_any {st : St} {e : Env} {U : Nat → Bool} (l : List AV) : ∀ k (vs : List Value), RL st e l vs → RL st e (anyAt U l k) vs := by
  induction l with
  | nil => intro k vs h; exact h
  | cons x l ih =>
    intro k vs h
    obtain ⟨v, vs', rfl, h1, h2⟩ := h
    refine ⟨v, vs', rfl, ?_, ih _ _ h2⟩
    split
    · trivial
    · exact h1
theorem apply_hide {U : Nat → Bool} {fb fr : Nat} {eff : Eff} {st : St} : eff.apply fb fr (hide U st) = hide U (eff.apply fb fr st) := by
  obtain ⟨ts, bs, rs, ys, pn⟩ := st
  cases eff with
  | call bs' rs' k sr => cases k <;> simp [Eff.apply, hide, anyAt_map]
  | _ => simp [Eff.apply, hide, anyAt_map]
theorem look_hide {U : Nat → Bool} {st : St} : look (hide U st) = look st := by
  funext v; cases v <;> rfl
def stepG (fb fr : Nat) (o : Oper) (st : St) (av : AV) (eff : Eff) : St :=
  match o.dst with
  | some d => ⟨(eff.apply fb fr st).tmps.set d av, (eff.apply fb fr st).boxes, (eff.apply fb fr st).rows, (eff.apply fb fr st).ys, (eff.apply fb fr st).pin⟩
  | none => eff.apply fb fr st
theorem vcOp_none {fb fr : Nat} {o : Oper} {st : St} {K : St → Prop} (hg : o.guard = none) : vcOp TT C Y false fb fr ops o st K ↔
    ∃ pre av eff, tr TT C Y (opnd st.tmps) (look st) (resolve st) st.ys fb fr o.op = some ⟨pre, av, eff⟩ ∧ (∀ p ∈ pre, p) ∧ K (stepG fb fr o st av eff) := by
  obtain ⟨ts, bs, rs, ys, pn⟩ := st
  unfold vcOp
  simp only [hg]
  cases h : tr TT C Y (opnd ts) (look ⟨ts, bs, rs, ys, pn⟩) (resolve ⟨ts, bs, rs, ys, pn⟩) ys fb fr o.op with
  | none => simp
  | some res =>
    obtain ⟨pre, av, eff⟩ := res
    simp only [Bool.not_false, Bool.true_or, conjP_iff, avK_eq, effK_eq, stK_eq]
    have key : (match o.dst with
          | some d => (match eff.apply fb fr ⟨ts, bs, rs, ys, pn⟩ with | ⟨ts', bs', rs', ys', pn'⟩ => setK ts' d av fun ts' => K ⟨ts', bs', rs', ys', pn'⟩)
          | none => K (eff.apply fb fr ⟨ts, bs, rs, ys, pn⟩)) ↔ K (stepG fb fr o ⟨ts, bs, rs, ys, pn⟩ av eff) := by
      unfold stepG
      generalize eff.apply fb fr ⟨ts, bs, rs, ys, pn⟩ = st'
      obtain ⟨ts', bs', rs', ys', pn'⟩ := st'
      cases o.dst with
      | none => exact Iff.rfl
      | some d => simp only [setK_eq]
    constructor
    · rintro ⟨h1, h2⟩; exact ⟨pre, av, eff, rfl, h1, key.1 h2⟩
    · rintro ⟨pre', av', eff', h1, h2, h3⟩
      cases h1
      exact ⟨h2, key.2 h3⟩

theorem pure_eff {op : Op} {A : Operand → AV} {lk : AV → Option SV} {rs : AV → Option RV} {ys : List (List AV)} {fb fr : Nat} {pre : List Prop} {av : AV} {eff : Eff} (hp : pureOp op = true)
    (h : tr TT C Y A lk rs ys fb fr op = some ⟨pre, av, eff⟩) : eff = .none := by
  cases op <;> simp only [pureOp, Bool.false_eq_true] at hp
  · simp only [tr] at h; cases h; rfl
  · simp only [tr] at h; cases h; rfl
  all_goals
    simp only [tr] at h
    repeat' (split at h)
    all_goals first | (cases h; rfl) | (cases h; done)

theorem smP_get {d : AV} {x : Option Res} (h : smP d x) : ∃ v, x = some ⟨[], v, .none⟩ ∧ (d = .any ∨ v = d) := by
  unfold smP at h
  split at h
  · rename_i v
    refine ⟨v, rfl, ?_⟩
    split at h
    · exact .inl rfl
    · exact .inr h
  · exact h.elim
theorem flt_get {st : St} {o : Oper} (h : flt TT C Y st o) : ∃ d, o.dst = some d ∧ ∃ v, tr TT C Y (opnd st.tmps) (look st) (resolve st) st.ys st.boxes.length st.rows.length o.op = some ⟨[], v, .none⟩ ∧ (getK .any st.tmps d = .any ∨ v = getK .any st.tmps d) := by
  obtain ⟨ts, bs, rs, ys, pn⟩ := st
  unfold flt at h
  cases hd : o.dst with
  | none => rw [hd] at h; exact h.elim
  | some d =>
    rw [hd] at h
    simp only [lenK_eq, Nat.zero_add] at h
    cases h with
    | mk h =>
      obtain ⟨v, h1, h2⟩ := smP_get h
      exact ⟨d, rfl, v, h1, h2⟩
theorem RL_anyAt {st : St} {e : Env} : ∀ (l : List AV) (vs : List Value) (d : Nat), RL st e l vs → RL st e (l.set d .any) vs := by
  intro l
  induction l with
  | nil => intro vs d h; exact h
  | cons x l ih =>
    intro vs d h
    obtain ⟨v, vs', h1, h2, h3⟩ := h
    cases d with
    | zero => exact ⟨v, vs', h1, trivial, h3⟩
    | succ d => exact ⟨v, vs', h1, h2, ih vs' d h3⟩
theorem fltL_iff {fl : List Oper} {st : St} {K : Prop} : fltL TT C Y fl st K ↔ (∀ o ∈ fl, flt TT C Y st o) ∧ K := by
  induction fl with
  | nil => simp [fltL]
  | cons o l ih =>
    show (flt TT C Y st o ∧ fltL TT C Y l st K) ↔ _
    rw [ih]
    simp only [List.mem_cons, forall_eq_or_imp, and_assoc]
theorem mem_flts {bf : List Nat} {el : List Bool} (l : List Oper) : ∀ (n i : Nat) (o : Oper), l[i]? = some o → floatB bf el (n + i) = true → o ∈ fltsOf bf el l n := by
  induction l with
  | nil => intro n i o h; simp at h
  | cons x l ih =>
    intro n i o h hf
    unfold fltsOf
    cases i with
    | zero =>
      simp only [List.getElem?_cons_zero, Option.some.injEq] at h
      subst h
      simp only [Nat.add_zero] at hf
      rw [hf]; simp
    | succ i =>
      have := ih (n + 1) i o (by simpa using h) (by rw [show n + 1 + i = n + (i + 1) by omega]; exact hf)
      split
      · simp [this]
      · exact this
def fltsL (l : List Oper) (el : List Bool) : List Oper := match allT el with
  | true => []
  | false => fltsOf (masks [] l) el l 0
theorem fltsK_eq (l : List Oper) (el : List Bool) (k : List Oper → Prop) : fltsK l el k = k (fltsL l el) := by
  unfold fltsK fltsL
  cases allT el with
  | true => rfl
  | false => simp only [listK_eq, masksT_eq]
def flts (C : Nat → Option Con) (ops : Array Oper) : List Oper := fltsL ops.toList (elOf C ops.toList)
theorem flts_mem {C : Nat → Option Con} {ops : Array Oper} {i : Nat} {o : Oper} (ho : ops.toList[i]? = some o) (hF : Fl C ops i = true) : o ∈ flts C ops := by
  unfold flts fltsL
  split
  · rename_i h
    unfold Fl floatB at hF
    simp only [Bool.and_eq_true, List.any_eq_true, List.mem_range, Bool.not_eq_true'] at hF
    obtain ⟨_, j, hj, h1, _⟩ := hF
    rw [allT_get h j (by rw [elOf_length]; rw [masks_length] at hj; simpa using hj)] at h1
    cases h1
  · exact mem_flts _ 0 i o ho (by rw [Nat.zero_add]; exact hF)
def LateAt (TT : TypeId → Option TD) (C : Nat → Option Con) (Y : List (List AV) → List AV → Option (Prop × Bool)) (ops : Array Oper) (m : Nat) (st : St) (K : St → Prop) : Prop :=
  vcLate TT C Y ops (flts C ops) (ops.toList.drop m) ((elOf C ops.toList).drop m) st K
theorem el_drop {C : Nat → Option Con} {ops : Array Oper} {m : Nat} (h : m < ops.toList.length) : (elOf C ops.toList).drop m = E C ops m :: (elOf C ops.toList).drop (m + 1) := by
  have hm : m < (elOf C ops.toList).length := by rw [elOf_length]; exact h
  rw [List.drop_eq_getElem_cons hm]
  congr 1
  unfold E; rw [getK_eq, List.getElem?_eq_getElem hm]; rfl
theorem late_skip {st : St} {K : St → Prop} : ∀ (k m : Nat), m + k ≤ ops.toList.length → (∀ i, m ≤ i → i < m + k → E C ops i = true) → LateAt TT C Y ops m st K → LateAt TT C Y ops (m + k) st K := by
  intro k
  induction k with
  | zero => intro m _ _ h; exact h
  | succ k ih =>
    intro m hm hE h
    have hlt : m < ops.toList.length := by omega
    unfold LateAt at h
    rw [el_drop hlt, List.drop_eq_getElem_cons hlt, hE m (Nat.le_refl _) (by omega)] at h
    have h' : LateAt TT C Y ops (m + 1) st K := h
    have := ih (m + 1) (by omega) (fun i h1 h2 => hE i (by omega) (by omega)) h'
    rwa [show m + 1 + k = m + (k + 1) by omega] at this
theorem late_end {st : St} {K : St → Prop} {m : Nat} (hm : ops.toList.length ≤ m) (h : LateAt TT C Y ops m st K) : K st := by
  unfold LateAt at h
  rw [List.drop_eq_nil_of_le hm] at h
  exact h
noncomputable def hid (C : Nat → Option Con) (ops : Array Oper) (S : Nat → Bool) (t : Nat) : Bool :=
  @decide (∃ i o, Fl C ops i = true ∧ S i = false ∧ ops.toList[i]? = some o ∧ o.dst = some t) (Classical.propDecidable _)
theorem hid_iff {S : Nat → Bool} {t : Nat} : hid C ops S t = true ↔ ∃ i o, Fl C ops i = true ∧ S i = false ∧ ops.toList[i]? = some o ∧ o.dst = some t := by
  unfold hid; exact @decide_eq_true_iff _ (Classical.propDecidable _)
theorem hid_false {S : Nat → Bool} {t : Nat} : hid C ops S t = false ↔ ∀ i o, Fl C ops i = true → S i = false → ops.toList[i]? = some o → o.dst ≠ some t := by
  rw [← Bool.not_eq_true, hid_iff]
  simp only [not_exists, not_and, ne_eq]
inductive Come (TT : TypeId → Option TD) (C : Nat → Option Con) (Y : List (List AV) → List AV → Option (Prop × Bool)) (c : Ctx) (ops : Array Oper) (st0 : St) (ds : Nat → AV × Eff) (K : St → Prop) (S : Nat → Bool) (a : Act) (w : World) : Prop
  | ahead (hS : ∀ i, S i = true → E C ops i = true) (st : St) (e : Env) (hA : Abs st0 ops.toList ds S st) (hh : HeapOK c e st w) (ht : TmpsOK c st e a)
  | behind (m : Nat) (hm : m ≤ ops.toList.length) (hL : ∀ i, E C ops i = false → i < ops.toList.length → (S i = true ↔ i < m)) (hE : ∀ i, E C ops i = true → Fl C ops i = false → S i = true) (st : St) (e : Env)
      (hv : LateAt TT C Y ops m st K) (hf : ∀ o ∈ flts C ops, flt TT C Y st o) (hh : HeapOK c e (hide (hid C ops S) st) w) (ht : TmpsOK c (hide (hid C ops S) st) e a)

section
variable {st0 stn : St} {ds : Nat → AV × Eff} {K : St → Prop} {S : Nat → Bool} {a : Act} {w : World}

theorem Come.turn (hf : DrawFacts C ops) (hD : ∀ j, E C ops j = true → ∃ o stt, ops.toList[j]? = some o ∧ Abs st0 ops.toList ds (Sk C ops j) stt ∧ Data TT C Y ops st0.boxes.length st0.rows.length j o stt (ds j).1 (ds j).2)
    (hAn : Abs st0 ops.toList ds (E C ops) stn) (hfl : ∀ o ∈ flts C ops, flt TT C Y stn o) (hK : LateAt TT C Y ops 0 stn K) (hall : ∀ i, E C ops i = true → Fl C ops i = false → S i = true) (h : Come TT C Y c ops st0 ds K S a w) :
    ∃ m, m ≤ ops.toList.length ∧ (∀ i, E C ops i = false → i < ops.toList.length → (S i = true ↔ i < m)) ∧ ∃ st e, LateAt TT C Y ops m st K ∧ (∀ o ∈ flts C ops, flt TT C Y st o) ∧ HeapOK c e (hide (hid C ops S) st) w ∧ TmpsOK c (hide (hid C ops S) st) e a := by
  cases h with
  | behind m hm hL hE st e hv hfs hh ht => exact ⟨m, hm, hL, st, e, hv, hfs, hh, ht⟩
  | ahead hS st e hA hh ht =>
    have heff : ∀ i, E C ops i = true → S i = false → (ds i).2 = .none := by
      intro i hE hSi
      have hF : Fl C ops i = true := by
        cases hF : Fl C ops i with
        | true => rfl
        | false => rw [hall i hE hF] at hSi; cases hSi
      obtain ⟨o, stt, ho, _, hdat⟩ := hD i hE
      obtain ⟨hg, hp, _⟩ := hf.flo i o ho hF
      unfold Data at hdat
      rw [hg] at hdat
      obtain ⟨_, pre, h2, _⟩ := hdat
      exact pure_eff hp h2
    have hcase : ∀ i, E C ops i = S i ∨ (E C ops i = true ∧ S i = false) := by
      intro i
      cases h1 : E C ops i <;> cases h2 : S i <;> simp
      have := hS i h2; rw [h1] at this; cases this
    have h2 : ∀ id, getK none st.boxes id = getK none stn.boxes id := by
      intro id
      by_cases hid : id < st0.boxes.length
      · rw [hA.boxOld id hid, hAn.boxOld id hid]
      · obtain ⟨i, rfl⟩ : ∃ i, id = st0.boxes.length + i := ⟨id - st0.boxes.length, by omega⟩
        rw [hA.boxNew, hAn.boxNew]
        rcases hcase i with h | ⟨h, h'⟩
        · rw [h]
        · rw [h', h, heff i h h']; rfl
    have h3 : ∀ id, getK none st.rows id = getK none stn.rows id := by
      intro id
      by_cases hid : id < st0.rows.length
      · rw [hA.rowOld id hid, hAn.rowOld id hid]
      · obtain ⟨i, k, hk, rfl⟩ : ∃ i k, k < 4 ∧ id = st0.rows.length + 4 * i + k := ⟨(id - st0.rows.length) / 4, (id - st0.rows.length) % 4, by omega, by omega⟩
        rw [hA.rowNew i k hk, hAn.rowNew i k hk]
        rcases hcase i with h | ⟨h, h'⟩
        · rw [h]
        · rw [h', h, heff i h h']; rfl
    obtain ⟨h4, h5⟩ := ext_heap (c := c) (e := e) (w := w) h2 h3 (hA.ys.trans hAn.ys.symm) (hA.pin.trans hAn.pin.symm)
    refine ⟨0, Nat.zero_le _, fun i hi _ => ⟨fun h => ?_, fun h => absurd h (Nat.not_lt_zero _)⟩, stn, e, hK, hfl, HeapOK_tmps (h5 hh), ?_, ht.2⟩
    · rw [hS i h] at hi; cases hi
    · have h6 := RL_mono (f := fun v => v) h4 ht.1
      have hid' : mapK (fun v : AV => v) st.tmps = st.tmps := by rw [mapK_eq]; simp
      rw [hid'] at h6
      have h7 := RL_any (U := hid C ops S) _ 0 _ h6
      have h8 : anyAt (hid C ops S) st.tmps 0 = anyAt (hid C ops S) stn.tmps 0 := by
        apply List.ext_getElem?
        intro t
        have hl1 : (anyAt (hid C ops S) st.tmps 0).length = st0.tmps.length := by rw [anyAt_length, hA.len]
        have hl2 : (anyAt (hid C ops S) stn.tmps 0).length = st0.tmps.length := by rw [anyAt_length, hAn.len]
        by_cases htl : t < st0.tmps.length
        · have hg : getK .any (anyAt (hid C ops S) st.tmps 0) t = getK .any (anyAt (hid C ops S) stn.tmps 0) t := by
            rw [anyAt_get, anyAt_get]
            split
            · rfl
            · rename_i hnot
              have hnot' : hid C ops S t = false := by simpa using hnot
              refine abs_tmp hA hAn (fun i o ho hd => ?_)
              rcases hcase i with h | ⟨h, h'⟩
              · exact h.symm
              · exfalso
                have hF : Fl C ops i = true := by
                  cases hF : Fl C ops i with
                  | true => rfl
                  | false => rw [hall i h hF] at h'; cases h'
                exact hid_false.1 hnot' i o hF h' ho hd
          rw [getK_eq, getK_eq] at hg
          have e1 := List.getElem?_eq_getElem (l := anyAt (hid C ops S) st.tmps 0) (i := t) (by omega)
          have e2 := List.getElem?_eq_getElem (l := anyAt (hid C ops S) stn.tmps 0) (i := t) (by omega)
          rw [e1, e2] at hg
          rw [e1, e2]
          simpa using hg
        · rw [List.getElem?_eq_none (by omega), List.getElem?_eq_none (by omega)]
      rw [h8] at h7
      exact RL_tmps _ _ h7

theorem Data.adds {j : Nat} {o : Oper} {st : St} {av : AV} {eff : Eff} (h : Data TT C Y ops nb nr j o st av eff) : eff.adds = true := by
  unfold Data at h
  cases hg : o.guard with
  | none => rw [hg] at h; exact h.1
  | some q =>
    obtain ⟨i, want⟩ := q; rw [hg] at h
    obtain ⟨g, _, h⟩ := h
    rcases h with ⟨_, h, _⟩ | ⟨_, rfl, _⟩
    · exact h
    · rfl

theorem tr_hide {U : Nat → Bool} {st : St} {fb fr : Nat} {op : Op} {res : Res} (hU : ∀ t, Operand.tmp t ∈ op.operands.toList → U t = false) (h : tr TT C Y (opnd st.tmps) (look st) (resolve st) st.ys fb fr op = some res) :
    tr TT C Y (opnd (hide U st).tmps) (look (hide U st)) (resolve (hide U st)) (hide U st).ys fb fr op = some res := by
  refine tr_local (fun x hx => ?_) (fun x hx rv hrv => ?_) (fun x hx rv hrv => hrv) (fun x hx g' caps hx' v hv rv hrv => hrv) h
  · cases x with
    | tmp t => show getK .any (anyAt U st.tmps 0) t = getK .any st.tmps t; rw [anyAt_get, Nat.zero_add, hU t hx]; rfl
    | _ => rfl
  · rw [look_hide]; exact hrv
theorem Come.next (hTT : TTOK P TT) (hC : ∀ f con, C f = some con → ConOK P G f con) (hgood : ∀ w, Frame c w → G c.g0 w) (hY : YOK P c Y) (hf : DrawFacts C ops)
    (hD : ∀ j, E C ops j = true → ∃ o stt, ops.toList[j]? = some o ∧ Abs st0 ops.toList ds (Sk C ops j) stt ∧ Data TT C Y ops st0.boxes.length st0.rows.length j o stt (ds j).1 (ds j).2)
    (hAn : Abs st0 ops.toList ds (E C ops) stn) (hfl : ∀ o ∈ flts C ops, flt TT C Y stn o) (hK : LateAt TT C Y ops 0 stn K) (hsh : Shut ops S) (h : Come TT C Y c ops st0 ds K S a w)
    {j : Nat} {o : Oper} (ho : ops.toList[j]? = some o) (hSj : S j = false) (hr : ∀ e ∈ o.after.toList, Region.binds .any e = true → S e.on = true)
    {Q : Exit → Act → World → Prop} {K' : Act → World → Prop} (hK' : ∀ a' w', Come TT C Y c ops st0 ds K (fun i => S i || i == j) a' w' → K' a' w') :
    if Region.wanted o (yielded ops a.tmps) then o.wpIn (W c.r) 0 P a w K' Q else K' (a.put o.dst undef) w := by
  have hjl : j < ops.toList.length := (List.getElem?_eq_some_iff.1 ho).1
  cases hEj : E C ops j with
  | false =>
    obtain ⟨m, hm, hL, st, e, hv, hfs, hh, ht⟩ := Come.turn hf hD hAn hfl hK (fun i hE hF => by
      refine ready_mask hsh ho hr i ?_
      cases hb : waits ops j i with
      | true => exact hb
      | false => rw [Fl_of hE hEj hjl hb] at hF; cases hF) h
    have hEall : ∀ i, E C ops i = true → Fl C ops i = false → S i = true := fun i hE hF => by
      refine ready_mask hsh ho hr i ?_
      cases hb : waits ops j i with
      | true => exact hb
      | false => rw [Fl_of hE hEj hjl hb] at hF; cases hF
    have hmj : m ≤ j := by
      rcases Nat.lt_or_ge j m with h | h
      · rw [(hL j hEj hjl).2 h] at hSj; cases hSj
      · exact h
    have hskip : LateAt TT C Y ops j st K := by
      have := late_skip (j - m) m (by omega) (fun i h1 h2 => by
        cases hEi : E C ops i with
        | true => rfl
        | false =>
          exfalso
          rcases hf.late j o ho hEj i (by omega) (by omega) with hb | ⟨hb, _⟩ | ⟨_, hb⟩
          · have := (hL i hEi (by omega)).1 (ready_mask hsh ho hr i hb); omega
          · rw [hEi] at hb; cases hb
          · omega) hv
      rwa [show m + (j - m) = j by omega] at this
    unfold LateAt at hskip
    rw [el_drop hjl, List.drop_eq_getElem_cons hjl, hEj] at hskip
    have hoj : ops.toList[j] = o := (List.getElem?_eq_some_iff.1 ho).2
    rw [hoj] at hskip
    have hhid : hid C ops (fun i => S i || i == j) = hid C ops S := by
      funext t
      rw [Bool.eq_iff_iff, hid_iff, hid_iff]
      constructor
      · rintro ⟨i, o', h1, h2, h3, h4⟩
        simp only [Bool.or_eq_false_iff] at h2
        exact ⟨i, o', h1, h2.1, h3, h4⟩
      · rintro ⟨i, o', h1, h2, h3, h4⟩
        refine ⟨i, o', h1, ?_, h3, h4⟩
        have : i ≠ j := fun hij => by subst hij; have := Fl_E h1; rw [hEj] at this; cases this
        simp [h2, this]
    have hL' : ∀ i, E C ops i = false → i < ops.toList.length → ((S i || i == j) = true ↔ i < j + 1) := by
      intro i hi hil
      simp only [Bool.or_eq_true, beq_iff_eq]
      constructor
      · rintro (h | h)
        · have := (hL i hi hil).1 h; omega
        · omega
      · intro h
        by_cases hij : i = j
        · exact .inr hij
        · left
          rcases hf.late j o ho hEj i hil hij with hb | ⟨hb, _⟩ | ⟨_, hb⟩
          · exact ready_mask hsh ho hr i hb
          · rw [hi] at hb; cases hb
          · omega
    have hE' : ∀ i, E C ops i = true → Fl C ops i = false → (S i || i == j) = true := fun i h1 h2 => by rw [hEall i h1 h2]; rfl
    cases hfls : flts C ops with
    | nil =>
      have hnone : ∀ S t, hid C ops S t = false := by
        intro S t
        rw [hid_false]
        intro i o' h1 _ h3
        have := flts_mem h3 h1
        rw [hfls] at this; cases this
      rw [hide_none (hnone S)] at hh ht
      obtain ⟨ts, bs, rs, ys, pn⟩ := st
      rw [hfls] at hskip
      change lenK bs 0 (fun nb => lenK rs 0 fun nr => vcOp TT C Y false nb nr ops o ⟨ts, bs, rs, ys, pn⟩ fun st' => vcLate TT C Y ops [] (ops.toList.drop (j + 1)) ((elOf C ops.toList).drop (j + 1)) st' K) at hskip
      simp only [lenK_eq, Nat.zero_add] at hskip
      refine vcOp_sound hTT hC hgood hY hh ht (fun j h1 _ => getK_length none bs _ h1) (fun j h1 _ => getK_length none rs _ h1) hskip (fun st' e' a' w' h1 h2 h3 => hK' a' w' (.behind (j + 1) (by omega) hL' hE' st' e' (by unfold LateAt; rw [hfls]; exact h3) (by rw [hfls]; intro o h; cases h) (by rw [hide_none (hnone _)]; exact h1) (by rw [hide_none (hnone _)]; exact h2)))
    | cons f fl =>
      obtain ⟨ts, bs, rs, ys, pn⟩ := st
      rw [hfls] at hskip
      change (match o.guard with
            | none => lenK bs 0 fun nb => lenK rs 0 fun nr => vcOp TT C Y false nb nr ops o ⟨ts, bs, rs, ys, pn⟩ fun st' => fltL TT C Y (f :: fl) st' (vcLate TT C Y ops (f :: fl) (ops.toList.drop (j + 1)) ((elOf C ops.toList).drop (j + 1)) st' K)
            | some _ => False) at hskip
      split at hskip
      · rename_i hg
        simp only [lenK_eq, Nat.zero_add] at hskip
        rw [← hfls] at hskip
        obtain ⟨pre, av, eff, h1, h2, h3⟩ := (vcOp_none hg).1 hskip
        rw [fltL_iff] at h3
        have hlook : ∀ t, t ∈ o.looksAt ops → hid C ops S t = false := by
          intro t htl
          rw [hid_false]
          intro i o' hF hSi ho' hd
          have hne : i ≠ j := fun hij => by subst hij; have := Fl_E hF; rw [hEj] at this; cases this
          rcases hf.late j o ho hEj i (E_lt (Fl_E hF)) hne with hb | ⟨_, hb⟩ | ⟨hb, _⟩
          · rw [ready_mask hsh ho hr i hb] at hSi; cases hSi
          · exact (hb o' t ho' hd).2 htl
          · rw [Fl_E hF] at hb; cases hb
        have hdst : ∀ d, o.dst = some d → hid C ops S d = false := by
          intro d hd
          rw [hid_false]
          intro i o' hF hSi ho' hd'
          have hne : i ≠ j := fun hij => by subst hij; have := Fl_E hF; rw [hEj] at this; cases this
          rcases hf.late j o ho hEj i (E_lt (Fl_E hF)) hne with hb | ⟨_, hb⟩ | ⟨hb, _⟩
          · rw [ready_mask hsh ho hr i hb] at hSi; cases hSi
          · exact (hb o' d ho' hd').1 hd
          · rw [Fl_E hF] at hb; cases hb
        have htr := tr_hide (U := hid C ops S) (fun t ht => hlook t (looks_operand ht)) h1
        have hstep : stepG bs.length rs.length o (hide (hid C ops S) ⟨ts, bs, rs, ys, pn⟩) av eff = hide (hid C ops S) (stepG bs.length rs.length o ⟨ts, bs, rs, ys, pn⟩ av eff) := by
          unfold stepG
          rw [apply_hide]
          cases hod : o.dst with
          | none => rfl
          | some d => simp only [hide]; rw [anyAt_set _ _ _ _ _ (by rw [Nat.zero_add]; exact hdst d hod)]
        have hvc : vcOp TT C Y false bs.length rs.length ops o (hide (hid C ops S) ⟨ts, bs, rs, ys, pn⟩) (fun s => s = hide (hid C ops S) (stepG bs.length rs.length o ⟨ts, bs, rs, ys, pn⟩ av eff)) :=
          (vcOp_none hg).2 ⟨pre, av, eff, htr, h2, hstep⟩
        refine vcOp_sound hTT hC hgood hY hh ht (fun j h1 _ => getK_length none bs _ h1) (fun j h1 _ => getK_length none rs _ h1) hvc (fun st' e' a' w' h4 h5 h6 => hK' a' w' (.behind (j + 1) (by omega) hL' hE' (stepG bs.length rs.length o ⟨ts, bs, rs, ys, pn⟩ av eff) e' h3.2 h3.1 (by rw [hhid, ← h6]; exact h4) (by rw [hhid, ← h6]; exact h5)))
      · exact hskip.elim
  | true =>
    cases h with
    | behind m hm hL hE st e hv hfs hh ht =>
      have hF : Fl C ops j = true := by
        cases hF : Fl C ops j with
        | true => rfl
        | false => rw [hE j hEj hF] at hSj; cases hSj
      obtain ⟨hg, _, _, hlk⟩ := hf.flo j o ho hF
      have hmem : o ∈ flts C ops := flts_mem ho hF
      obtain ⟨d, hd, v, htr0, hv0⟩ := flt_get (hfs o hmem)
      have hlook : ∀ t, t ∈ o.looksAt ops → hid C ops S t = false := by
        intro t htl
        rw [hid_false]
        intro i o' hFi hSi ho' hd'
        rcases hlk i o' t (Fl_E hFi) ho' hd' with hb | ⟨_, hb⟩
        · exact hb htl
        · rw [ready_mask hsh ho hr i hb] at hSi; cases hSi
      have htr := tr_hide (U := hid C ops S) (fun t ht => hlook t (looks_operand ht)) htr0
      have hU : ∀ t, hid C ops (fun i => S i || i == j) t = (hid C ops S t && t != 0 + d) := by
        intro t
        rw [Nat.zero_add, Bool.eq_iff_iff, Bool.and_eq_true, hid_iff, hid_iff, bne_iff_ne]
        constructor
        · rintro ⟨i, o', h1, h2, h3, h4⟩
          simp only [Bool.or_eq_false_iff, beq_eq_false_iff_ne] at h2
          refine ⟨⟨i, o', h1, h2.1, h3, h4⟩, fun htd => ?_⟩
          subst htd
          exact (hf.pre j o ho hEj i o' t (Fl_E h1) h3 h4 h2.2).1 hd
        · rintro ⟨⟨i, o', h1, h2, h3, h4⟩, hne⟩
          refine ⟨i, o', h1, ?_, h3, h4⟩
          have : i ≠ j := fun hij => by
            subst hij
            rw [ho] at h3; cases h3
            rw [hd] at h4; cases h4; exact hne rfl
          simp [h2, this]
      have hfill : (anyAt (hid C ops S) st.tmps 0).set d (getK .any st.tmps d) = anyAt (hid C ops (fun i => S i || i == j)) st.tmps 0 := anyAt_fill _ 0 d hU
      have hstep : stepG st.boxes.length st.rows.length o (hide (hid C ops S) st) v .none = ⟨(anyAt (hid C ops S) st.tmps 0).set d v, st.boxes, st.rows, st.ys, st.pin⟩ := by
        unfold stepG
        rw [hd]; rfl
      have hvc : vcOp TT C Y false st.boxes.length st.rows.length ops o (hide (hid C ops S) st) (fun s => s = ⟨(anyAt (hid C ops S) st.tmps 0).set d v, st.boxes, st.rows, st.ys, st.pin⟩) :=
        (vcOp_none hg).2 ⟨[], _, .none, htr, by simp, hstep⟩
      have hback : ∀ e' a', TmpsOK c ⟨(anyAt (hid C ops S) st.tmps 0).set d v, st.boxes, st.rows, st.ys, st.pin⟩ e' a' → TmpsOK c (hide (hid C ops (fun i => S i || i == j)) st) e' a' := by
        intro e' a' h5
        refine ⟨?_, h5.2⟩
        show RL _ e' (anyAt (hid C ops (fun i => S i || i == j)) st.tmps 0) _
        rw [← hfill]
        rcases hv0 with hv0 | hv0
        · rw [hv0]
          have := RL_anyAt _ _ d h5.1
          rw [List.set_set] at this
          exact RL_tmps _ _ this
        · rw [← hv0]
          exact RL_tmps _ _ h5.1
      refine vcOp_sound hTT hC hgood hY hh ht (fun j h1 _ => getK_length none st.boxes _ h1) (fun j h1 _ => getK_length none st.rows _ h1) hvc (fun st' e' a' w' h4 h5 h6 => hK' a' w' (.behind m hm (fun i hi hil => ?_) (fun i h1 h2 => by rw [hE i h1 h2]; rfl) st e' hv hfs (by subst h6; exact HeapOK_tmps h4) (hback e' a' (by rw [← h6]; exact h5))))
      have : i ≠ j := fun hij => by subst hij; rw [hEj] at hi; cases hi
      simp only [Bool.or_eq_true, beq_iff_eq, this, or_false]
      exact hL i hi hil
    | ahead hS st e hA hh ht =>
      obtain ⟨o', stt, ho', hAt, hdat⟩ := hD j hEj
      rw [ho] at ho'; cases ho'
      refine step_any (nb := st0.boxes.length) (nr := st0.rows.length) (av := (ds j).1) (eff := (ds j).2) hTT hC hgood hY hdat (fun t htl => abs_tmp hA hAt (fun i oi hoi hd => ?_)) (hA.ys.trans hAt.ys.symm) (fun id b b' h1 h2 => abs_box hAt hA id b b' h1 h2) (fun id b b' h1 h2 => abs_row hAt hA id b b' h1 h2) hh ht ?_ (fun i h1 h2 => ?_) (fun e' a' w' h1 h2 => hK' a' w' (.ahead (fun i hi => ?_) _ e' (hA.step hSj ho (fun i oi d hSi hne hoi hd => (hf.pre j o ho hEj i oi d (hS i hSi) hoi hd hne).1) hdat.adds) h1 h2))
      · unfold Sk
        cases hEi : E C ops i with
        | false =>
          cases hSi : S i with
          | false => rfl
          | true => have := hS i hSi; rw [hEi] at this; cases this
        | true =>
        rw [Bool.true_and]
        by_cases hij : i = j
        · subst hij; rw [hSj]; simp
        · rcases (hf.pre j o ho hEj i oi t hEi hoi hd hij).2 with h1 | ⟨h1, h2⟩ | ⟨h1, h2⟩
          · exact absurd htl h1
          · rw [ready_mask hsh ho hr i h2]; simp [h1]
          · have : S i = false := by
              cases hSi : S i with
              | false => rfl
              | true => rw [shut_mask hsh i hSi j h2] at hSj; cases hSj
            rw [this]
            have : ¬ i < j := by omega
            simp [this]
      · rw [hA.boxNew j, if_neg (by simp [hSj])]
      · obtain ⟨k, rfl⟩ : ∃ k, i = st0.rows.length + 4 * j + k := ⟨i - (st0.rows.length + 4 * j), by omega⟩
        rw [hA.rowNew j k (by omega), if_neg (by simp [hSj])]
      · simp only [Bool.or_eq_true, beq_iff_eq] at hi
        rcases hi with hi | rfl
        · exact hS i hi
        · exact hEj
end

theorem draw_ok (hTT : TTOK P TT) (hC : ∀ f con, C f = some con → ConOK P G f con) (hgood : ∀ w, Frame c w → G c.g0 w) (hY : YOK P c Y) (hm : P.follows .mixedOrders = true) : DrawOK P TT C Y c := by
  intro id ops st0 K e a w Q hok hv hh ht hQ
  have hf := drawOk_facts hok
  obtain ⟨ts, bs, rs, ys, pn⟩ := st0
  simp only [vcDraw, lenK_eq, Nat.zero_add, boolLK_eq, fltsK_eq] at hv
  have hS0 : Sk C ops 0 = fun _ => false := by funext i; unfold Sk; simp
  have hA0 : Abs ⟨ts, bs, rs, ys, pn⟩ ops.toList (fun _ => (.any, .none)) (Sk C ops 0) ⟨ts, bs, rs, ys, pn⟩ := by
    rw [hS0]
    refine ⟨rfl, rfl, rfl, fun i t o h => by simp at h, fun t _ => rfl, fun id _ => rfl, fun i => ?_, fun id _ => rfl, fun i k _ => ?_⟩
    · rw [if_neg (by simp), getK_length _ _ _ (by simp)]
    · rw [if_neg (by simp), getK_length _ _ _ (by simp; omega)]
  obtain ⟨ds, stn, hD, hAn, hK⟩ := vcPre_chain (TT := TT) (C := C) (Y := Y) (st0 := ⟨ts, bs, rs, ys, pn⟩) hf 0 _ _ ⟨ts, bs, rs, ys, pn⟩ (fun _ => (.any, .none)) (by simp) (by simp) hA0 (fun j hj => absurd hj (Nat.not_lt_zero _)) hv
  rw [fltL_iff] at hK
  obtain ⟨hfl, hK⟩ := hK
  have hK : LateAt TT C Y ops 0 stn K := hK
  refine wpIn_region_any hm ?_
  have main : ∀ (fuel : Nat) (listed : Array Bool) (a : Act) (w : World), listed.size = ops.size → Shut ops (fun i => listed.getD i false) → Come TT C Y c ops ⟨ts, bs, rs, ys, pn⟩ ds K (fun i => listed.getD i false) a w →
      ((List.range ops.size).filter (fun i => !listed.getD i false)).length ≤ fuel → wpAnyIn (W c.r) 0 P .any ops Q fuel listed a w := by
    intro fuel
    have hdone : ∀ (listed : Array Bool) (a : Act) (w : World), listed.size = ops.size → Come TT C Y c ops ⟨ts, bs, rs, ys, pn⟩ ds K (fun i => listed.getD i false) a w → Region.ready .any ops listed = [] → Q .normal a w := by
      intro listed a w hsz hcome hr
      have hall : ∀ i, i < ops.toList.length → listed.getD i false = true := by
        intro i
        induction i using Nat.strongRecOn with
        | ind i ih =>
          intro hi
          cases hl : listed.getD i false with
          | true => rfl
          | false =>
            exfalso
            have hmem : i ∈ Region.ready .any ops listed := by
              rw [mem_ready]
              have hi' : i < listed.size := by rw [hsz]; simpa using hi
              refine ⟨?_, ops.toList[i], by rw [← Array.getElem?_toList]; exact List.getElem?_eq_getElem hi, fun e he hb => ?_⟩
              · simpa [hi'] using hl
              · have := hf.edge i _ (List.getElem?_eq_getElem hi) e (by simpa using he) hb
                exact ih e.on this (by omega)
            rw [hr] at hmem; cases hmem
      obtain ⟨m, h1, h2, st, e, h3, h4, h5, h6⟩ := Come.turn hf hD hAn hfl hK (fun i hE _ => hall i (E_lt hE)) hcome
      have hnone : ∀ t, hid C ops (fun i => listed.getD i false) t = false := by
        intro t
        rw [hid_false]
        intro i o' hF hSi
        rw [hall i (E_lt (Fl_E hF))] at hSi; cases hSi
      rw [hide_none hnone] at h5 h6
      have h7 := late_skip (ops.toList.length - m) m (by omega) (fun i h8 h9 => by
        cases hEi : E C ops i with
        | true => rfl
        | false => have := (h2 i hEi (by omega)).1 (hall i (by omega)); omega) h3
      exact hQ st e a w h5 h6 (late_end (by omega) h7)
    induction fuel with
    | zero =>
      intro listed a w hsz hsh hcome hlen
      have hnil : Region.ready .any ops listed = [] := by
        rw [List.eq_nil_iff_forall_not_mem]
        intro i hi
        obtain ⟨h1, o, h2, _⟩ := mem_ready.1 hi
        have hi' : i < ops.size := (Array.getElem?_eq_some_iff.1 h2).1
        have hi2 : i < listed.size := by rw [hsz]; exact hi'
        have : i ∈ (List.range ops.size).filter (fun i => !listed.getD i false) := by
          rw [List.mem_filter, List.mem_range]
          refine ⟨hi', ?_⟩
          simpa [hi2] using h1
        rw [List.eq_nil_of_length_eq_zero (Nat.le_zero.1 hlen)] at this
        cases this
      exact ⟨hnil, hdone listed a w hsz hcome hnil⟩
    | succ fuel ih =>
      intro listed a w hsz hsh hcome hlen
      refine ⟨hdone listed a w hsz hcome, fun j hj => ?_⟩
      obtain ⟨h1, o, h2, h3⟩ := mem_ready.1 hj
      have hj' : j < ops.size := (Array.getElem?_eq_some_iff.1 h2).1
      have hj2 : j < listed.size := by rw [hsz]; exact hj'
      have hSj : listed.getD j false = false := by simpa [hj2] using h1
      have ho : ops.toList[j]? = some o := by simpa using h2
      have hset : (fun i => (listed.setIfInBounds j true).getD i false) = fun i => listed.getD i false || i == j := by
        funext i
        by_cases hij : i = j
        · subst hij; simp [hj2]
        · rw [getD_set_ne false (Ne.symm hij)]; simp [hij]
      refine wpOp_of (fun _ => trivial) h2 (Come.next hTT hC hgood hY hf hD hAn hfl hK hsh hcome ho hSj (fun e he hb => h3 e (by simpa using he) hb) (fun a' w' hc => ih _ a' w' (by simpa using hsz) ?_ (by rw [hset]; exact hc) ?_))
      · rw [hset]
        intro i oi hi hoi e he hb
        simp only [Bool.or_eq_true, beq_iff_eq] at hi ⊢
        rcases hi with hi | rfl
        · exact .inl (hsh i oi hi hoi e he hb)
        · rw [ho] at hoi; cases hoi
          exact .inl (h3 e (by simpa using he) hb)
      · have hfl : (List.range ops.size).filter (fun i => !(listed.setIfInBounds j true).getD i false) = ((List.range ops.size).filter (fun i => !listed.getD i false)).filter (fun i => i != j) := by
          rw [List.filter_filter]
          refine List.filter_congr fun i _ => ?_
          have := congrFun hset i
          rw [this]
          cases listed.getD i false <;> cases h : i == j <;> simp_all
        rw [hfl]
        have hlt : (((List.range ops.size).filter (fun i => !listed.getD i false)).filter (fun i => i != j)).length < ((List.range ops.size).filter (fun i => !listed.getD i false)).length := by
          rw [List.length_filter_lt_length_iff_exists]
          exact ⟨j, List.mem_filter.2 ⟨List.mem_range.2 hj', by rw [hSj]; rfl⟩, by simp⟩
        omega
  have hS1 : (fun i => (Array.replicate ops.size false).getD i false) = fun _ => false := by
    funext i
    rw [Array.getD_eq_getD_getElem?]
    cases h : (Array.replicate ops.size false)[i]? with
    | none => rfl
    | some b => 
      obtain ⟨h1, h2⟩ := Array.getElem?_eq_some_iff.1 h
      simp at h2; simp [← h2]
  refine main ops.size _ a _ (by simp) (by rw [hS1]; intro j o h; cases h) ?_ (by have := List.length_filter_le (fun i => !(Array.replicate ops.size false).getD i false) (List.range ops.size); simpa using this)
  rw [hS1]
  refine Come.ahead (fun i h => by cases h) ⟨ts, bs, rs, ys, pn⟩ e ?_ (HeapOK_drawn hh _) ht
  refine ⟨rfl, rfl, rfl, fun i t o h => (by cases h), fun t _ => rfl, fun id _ => rfl, fun i => ?_, fun id _ => rfl, fun i k _ => ?_⟩
  · rw [if_neg (by simp), getK_length _ _ _ (by simp)]
  · rw [if_neg (by simp), getK_length _ _ _ (by simp; omega)]
end
end Go.X

namespace Go.X
open Go.RowKit

mutual
def occ : RV → List Nat
  | .row id _ => [id]
  | .view id _ _ _ _ => [id]
  | .box _ _ _ _ l => occL l
  | .fn _ l => occL l
  | .agg l => occL l
  | .tup l => occL l
  | _ => []
def occL : List RV → List Nat
  | [] => []
  | x :: l => occ x ++ occL l
end
mutual
def vws : RV → List Nat
  | .view id _ _ _ _ => [id]
  | .box _ _ _ _ l => vwsL l
  | .fn _ l => vwsL l
  | .agg l => vwsL l
  | .tup l => vwsL l
  | _ => []
def vwsL : List RV → List Nat
  | [] => []
  | x :: l => vws x ++ vwsL l
end
def occOk : List Nat → List RV → Bool
  | [], _ => true
  | id :: l, rvs => decide ((occL rvs).count id ≤ 1) && !(vwsL rvs).contains id && occOk l rvs

theorem occOk_spec {kill : List Nat} {rvs : List RV} (h : occOk kill rvs = true) : ∀ id ∈ kill, (occL rvs).count id ≤ 1 ∧ id ∉ vwsL rvs := by
  induction kill with
  | nil => intro id hid; cases hid
  | cons x l ih =>
    simp only [occOk, Bool.and_eq_true, decide_eq_true_eq, Bool.not_eq_true', List.contains_eq_mem, decide_eq_false_iff_not] at h
    intro id hid
    rcases List.mem_cons.1 hid with rfl | hid
    · exact h.1
    · exact ih h.2 id hid
def killBlk (e : Env) (st : St) (kill : List Nat) (g : Nat) : Prop := ∃ id, id ∈ kill ∧ blkR e st id = some g

theorem HeapOK.blkR_mine {c : Ctx} {e : Env} {st : St} {w : World} (hh : HeapOK c e st w) {id g : Nat} (h : blkR e st id = some g) : Mine c e.M g ∧ g < w.heap.size := by
  simp only [blkR] at h
  cases hq : getK none st.rows id with
  | none => rw [hq] at h; cases h
  | some q =>
    rw [hq] at h
    cases hro : q.own
    · simp [hro] at h
    · simp [hro] at h; exact hh.row_lt hq hro h

def inner (c : Ctx) (e : Env) (st : St) (w : World) (kill : List Nat) (hh : HeapOK c e st w) : Ctx where
  base := w.heap.size
  wr := killBlk e st kill
  w0 := w
  size := rfl
  g0 := c.g0
  g0_le := Nat.le_trans c.g0_le hh.base_le
  wr_ge := fun k ⟨id, _, h⟩ => by
    rcases (hh.blkR_mine h).1.1 with h1 | h1
    · exact Nat.le_trans c.g0_le h1
    · exact c.wr_ge k h1
  r := none
  l := 0
  pv := []
  D0 := []
  J := fun _ M _ => ∀ k, ¬ M k
  Jlt := fun _ _ _ h k hk => absurd hk (h k)
  Jst := fun _ _ _ _ h _ _ _ _ _ => h

theorem resolveFL_cons {bs : List (Option Box)} {rs : List (Option Row)} {n : Nat} {x : AV} {l : List AV} {rvs : List RV} (h : resolveFL bs rs (n + 1) (x :: l) = some rvs) :
    ∃ r m, resolveF bs rs n x = some r ∧ resolveFL bs rs n l = some m ∧ rvs = r :: m := by
  simp only [resolveFL] at h
  split at h
  · rename_i r hr
    split at h
    · rename_i m hm; cases h; exact ⟨r, m, hr, hm, rfl⟩
    · cases h
  · cases h
theorem resolveFL_nil {bs : List (Option Box)} {rs : List (Option Row)} {n : Nat} {rvs : List RV} (h : resolveFL bs rs n [] = some rvs) : rvs = [] := by
  cases n <;> simp [resolveFL] at h; exact h
structure Handed (e : Env) (st : St) (w : World) (kill : List Nat) (bs : List (Option Box)) (rs : List (Option Row)) (bl : List Nat) (vl : List Value) (il : List Nat) : Prop where
  lb : bl.length = bs.length
  lr : vl.length = rs.length
  li : il.length = rs.length
  box : ∀ (i : Nat) (b : Box), bs[i]? = some (some b) → b.own = false ∧ ∃ g, bl[i]? = some g ∧ g < w.heap.size ∧ (∀ id, blkR e st id ≠ some g) ∧ ∃ vs : List Value, w.heap[g]? = some (.cells vs.toArray b.T (0, 0)) ∧ ∀ v ∈ vs, v.oneCell' = true
  row : ∀ (i : Nat) (r : Row), rs[i]? = some (some r) → ∃ (v : Value) (id : Nat), vl[i]? = some v ∧ il[i]? = some id ∧
    ((r.own = true ∧ id ∈ kill ∧ Owns w r.T r.k v r.l ∧ (∀ g, v.ownBlock = some g → blkR e st id = some g)) ∨
     (r.own = false ∧ ∃ (p : Option Addr) (cap : Nat), v = .slice p r.l.length cap ∧ r.l.length ≤ cap ∧ (p = none → cap = 0) ∧ ∀ j u, (valsOf r.k r.l)[j]? = some u → ∃ b, p = some b ∧ b.block < w.heap.size ∧ ¬ killBlk e st kill b.block ∧ w.cell? (b.add j) = some u))

theorem Handed.nil {e : Env} {st : St} {w : World} {kill : List Nat} : Handed e st w kill [] [] [] [] [] := ⟨rfl, rfl, rfl, fun i b h => by simp at h, fun i b h => by simp at h⟩

theorem Handed.app {e : Env} {st : St} {w : World} {kill : List Nat} {bs bs' : List (Option Box)} {rs rs' : List (Option Row)} {bl bl' : List Nat} {vl vl' : List Value} {il il' : List Nat} (h : Handed e st w kill bs rs bl vl il) (h' : Handed e st w kill bs' rs' bl' vl' il') :
    Handed e st w kill (bs ++ bs') (rs ++ rs') (bl ++ bl') (vl ++ vl') (il ++ il') := by
  refine ⟨by simp [h.lb, h'.lb], by simp [h.lr, h'.lr], by simp [h.li, h'.li], fun i b hb => ?_, fun i r hr => ?_⟩
  · by_cases hi : i < bs.length
    · rw [List.getElem?_append_left hi] at hb
      obtain ⟨h1, g, h2, h3⟩ := h.box i b hb
      exact ⟨h1, g, by rw [List.getElem?_append_left (by rw [h.lb]; exact hi)]; exact h2, h3⟩
    · rw [List.getElem?_append_right (by omega)] at hb
      obtain ⟨h1, g, h2, h3⟩ := h'.box _ b hb
      exact ⟨h1, g, by rw [List.getElem?_append_right (by rw [h.lb]; omega), h.lb]; exact h2, h3⟩
  · by_cases hi : i < rs.length
    · rw [List.getElem?_append_left hi] at hr
      obtain ⟨v, id, h1, h2, h3⟩ := h.row i r hr
      exact ⟨v, id, by rw [List.getElem?_append_left (by rw [h.lr]; exact hi)]; exact h1, by rw [List.getElem?_append_left (by rw [h.li]; exact hi)]; exact h2, h3⟩
    · rw [List.getElem?_append_right (by omega)] at hr
      obtain ⟨v, id, h1, h2, h3⟩ := h'.row _ r hr
      exact ⟨v, id, by rw [List.getElem?_append_right (by rw [h.lr]; omega), h.lr]; exact h1, by rw [List.getElem?_append_right (by rw [h.li]; omega), h.li]; exact h2, h3⟩
def Fits (st : St) (e : Env) (nb nr : Nat) (bs : List (Option Box)) (rs : List (Option Row)) (bl : List Nat) (vl : List Value) : Prop :=
  (∀ (i : Nat) (b : Box), bs[i]? = some (some b) → getK none st.boxes (nb + i) = some b) ∧ (∀ (i : Nat) (r : Row), rs[i]? = some (some r) → getK none st.rows (nr + i) = some r) ∧
  (∀ (i g : Nat), bl[i]? = some g → e.β (nb + i) = g) ∧ (∀ (i : Nat) (v : Value), vl[i]? = some v → e.ρ (nr + i) = v)

theorem Fits.left {st : St} {e : Env} {nb nr : Nat} {bs bs' : List (Option Box)} {rs rs' : List (Option Row)} {bl bl' : List Nat} {vl vl' : List Value} (h : Fits st e nb nr (bs ++ bs') (rs ++ rs') (bl ++ bl') (vl ++ vl')) :
    Fits st e nb nr bs rs bl vl := by
  obtain ⟨h1, h2, h3, h4⟩ := h
  have key : ∀ {α : Type} (l m : List α) (i : Nat) (x : α), l[i]? = some x → (l ++ m)[i]? = some x := fun l m i x hx => by
    rw [List.getElem?_append_left (List.getElem?_eq_some_iff.1 hx).1]; exact hx
  exact ⟨fun i b hb => h1 i b (key _ _ _ _ hb), fun i b hb => h2 i b (key _ _ _ _ hb), fun i b hb => h3 i b (key _ _ _ _ hb), fun i b hb => h4 i b (key _ _ _ _ hb)⟩

theorem Fits.right {st : St} {e : Env} {nb nr : Nat} {bs bs' : List (Option Box)} {rs rs' : List (Option Row)} {bl bl' : List Nat} {vl vl' : List Value} (hb : bl.length = bs.length) (hr : vl.length = rs.length) (h : Fits st e nb nr (bs ++ bs') (rs ++ rs') (bl ++ bl') (vl ++ vl')) :
    Fits st e (nb + bs.length) (nr + rs.length) bs' rs' bl' vl' := by
  obtain ⟨h1, h2, h3, h4⟩ := h
  have key : ∀ {α : Type} (l m : List α) (i : Nat) (x : α), m[i]? = some x → (l ++ m)[l.length + i]? = some x := fun l m i x hx => by
    rw [List.getElem?_append_right (by omega)]; simpa using hx
  refine ⟨fun i b hx => ?_, fun i b hx => ?_, fun i b hx => ?_, fun i b hx => ?_⟩
  · have := h1 _ b (key bs bs' i _ hx); rwa [← Nat.add_assoc] at this
  · have := h2 _ b (key rs rs' i _ hx); rwa [← Nat.add_assoc] at this
  · have := h3 _ b (key bl bl' i _ hx); rw [hb] at this; rwa [← Nat.add_assoc] at this
  · have := h4 _ b (key vl vl' i _ hx); rw [hr] at this; rwa [← Nat.add_assoc] at this

theorem res_a_same {bs : List (Option Box)} {rs : List (Option Row)} {n : Nat} {v u : AV} (h : resolveF bs rs n v = some (.a u)) : v = u ∧ ∀ st e st' e' x, R st e v x → R st' e' u x := by
  cases n with
  | zero => simp [resolveF] at h
  | succ n =>
    cases v <;> simp only [resolveF] at h <;> (try (repeat' (split at h))) <;> (try (cases h; done)) <;> simp only [Option.some.injEq, RV.a.injEq] at h <;> subst h <;> first | exact ⟨rfl, fun _ _ _ _ _ h => h⟩ | exact ⟨rfl, fun _ _ _ _ _ h => closed_R _ _ (by simpa [AV.closed] using ‹_ = true›) h⟩

section
variable {c : Ctx} {st : St} {e : Env} {w : World}
theorem row_blk (hh : HeapOK c e st w) {id : Nat} {r : Row} (hr : getK none st.rows id = some r) (hne : r.l ≠ []) : ∃ p n cc, e.ρ id = .slice (some p) n cc ∧ p.block < w.heap.size ∧ ((r.own = true ∧ blkR e st id = some p.block) ∨ Fixed c e.M p.block) := by
  obtain ⟨_, h⟩ := hh.row id r hr
  have hlen : 0 < r.l.length := List.length_pos_iff.2 hne
  cases ho : r.own
  · rw [ho] at h
    obtain ⟨q, cap, hq, _, _, hc⟩ := h
    have hlt : 0 < (valsOf r.k r.l).length := by rw [valsOf_length]; exact Nat.mul_pos hlen (size_pos _)
    obtain ⟨b, rfl, hf, hcell⟩ := hc 0 _ (List.getElem?_eq_getElem hlt)
    exact ⟨b, _, cap, hq, by have := hf.1; have := hh.base_le; omega, .inr hf⟩
  · rw [ho] at h
    rcases h.1 with ⟨_, h0⟩ | ⟨g, cap, cur, fz, h1, hgg, _⟩
    · exact absurd h0 hne
    · refine ⟨_, _, cap, h1, (Array.getElem?_eq_some_iff.1 hgg).1, .inl ⟨rfl, ?_⟩⟩
      simp [blkR, hr, ho, h1, Value.ownBlock]

theorem not_kill (hh : HeapOK c e st w) {kill : List Nat} {id g : Nat} (hk : id ∉ kill) (h : blkR e st id = some g ∨ Fixed c e.M g) : ¬ killBlk e st kill g := by
  rintro ⟨id', hid', h'⟩
  rcases h with h | h
  · exact hk (hh.injR _ _ _ h' h ▸ hid')
  · exact fixed_ne h (hh.blkR_mine h').1

theorem row_handed {kill : List Nat} (hh : HeapOK c e st w) {id : Nat} {r : Row} (hr : getK none st.rows id = some r) (hk : r.own = true → id ∉ kill) :
    ∃ (p : Option Addr) (cap : Nat), e.ρ id = .slice p r.l.length cap ∧ r.l.length ≤ cap ∧ (p = none → cap = 0) ∧ ∀ j u, (valsOf r.k r.l)[j]? = some u → ∃ b, p = some b ∧ b.block < w.heap.size ∧ ¬ killBlk e st kill b.block ∧ w.cell? (b.add j) = some u := by
  obtain ⟨p, cc, hv, hcc, hp, hnil⟩ := row_shape hh hr
  refine ⟨p, cc, hv, hcc, hnil, fun j u hj => ?_⟩
  have hne : r.l ≠ [] := fun h => by rw [h] at hj; simp [valsOf] at hj
  obtain ⟨q, n, c2, h1, h2, h3⟩ := row_blk hh hr hne
  rw [hv] at h1
  simp only [Value.slice.injEq] at h1
  obtain ⟨rfl, _, _⟩ := h1
  refine ⟨q, rfl, h2, ?_, ?_⟩
  · rcases h3 with ⟨ho, h3⟩ | h3
    · exact not_kill hh (hk ho) (.inl h3)
    · rintro ⟨id', hid', h'⟩; exact fixed_ne h3 (hh.blkR_mine h').1
  · rcases row_cells hh hr with ⟨h4, _⟩ | ⟨q', c3, h4, _, h5⟩
    · exact absurd h4 hne
    · rw [hv] at h4
      simp only [Value.slice.injEq, Option.some.injEq] at h4
      obtain ⟨rfl, _, _⟩ := h4
      exact h5 j u hj

theorem view_handed {kill : List Nat} (hh : HeapOK c e st w) {id lo hi : Nat} {ex : Bool} {r : Row} {x : Value} (hr : getK none st.rows id = some r) (hk : id ∉ kill) (hx : R st e (.view id lo hi ex) x) :
    ∃ (p : Option Addr) (cap : Nat), x = .slice p (cutL lo hi r.l).length cap ∧ (cutL lo hi r.l).length ≤ cap ∧ (p = none → cap = 0) ∧ ∀ j u, (valsOf r.k (cutL lo hi r.l))[j]? = some u → ∃ b, p = some b ∧ b.block < w.heap.size ∧ ¬ killBlk e st kill b.block ∧ w.cell? (b.add j) = some u := by
  obtain ⟨hl, hlen⟩ := view_cells hh hr hx
  obtain ⟨r', hr', h3, h4, p, m, cc, p', c', hρ, rfl, h7, _, h9, h10⟩ := hx
  rw [hr] at hr'; cases hr'
  refine ⟨p', c', by rw [hlen], by rw [hlen]; exact h10, h9, fun j u hj => ?_⟩
  have hne : cutL lo hi r.l ≠ [] := fun h => by rw [h] at hj; simp [valsOf] at hj
  have hlt : lo < hi := by
    have := List.length_pos_iff.2 hne
    omega
  obtain ⟨p0, rfl, rfl⟩ := h7 hlt
  have hne' : r.l ≠ [] := fun h => by rw [h] at h4; simp at h4; omega
  obtain ⟨q, n, c2, h1, h2, h5⟩ := row_blk hh hr hne'
  rw [hρ] at h1
  simp only [Value.slice.injEq, Option.some.injEq] at h1
  obtain ⟨rfl, _, _⟩ := h1
  have hbl : (p0.add (lo * r.k.size)).block = p0.block := by unfold Addr.add; split <;> rfl
  refine ⟨_, rfl, by rw [hbl]; exact h2, ?_, ?_⟩
  · rw [hbl]
    rcases h5 with ⟨_, h5⟩ | h5
    · exact not_kill hh hk (.inl h5)
    · exact not_kill hh hk (.inr h5)
  · rcases hl with ⟨h6, _⟩ | ⟨q', c3, h6, _, h8⟩
    · exact absurd h6 hne
    · simp only [Value.slice.injEq, Option.some.injEq] at h6
      obtain ⟨rfl, _, _⟩ := h6
      exact h8 j u hj

mutual
theorem imp_spec {kill : List Nat} (hh : HeapOK c e st w) (nb nr n : Nat) (v : AV) (rv : RV) (x : Value) (hr : resolveF st.boxes st.rows n v = some rv) (h : R st e v x) (hk : ∀ id ∈ vws rv, id ∉ kill) :
    ∃ bl vl, Handed e st w kill (imp kill nb nr rv).2.1 (imp kill nb nr rv).2.2 bl vl (occ rv) ∧ ∀ st' e', Fits st' e' nb nr (imp kill nb nr rv).2.1 (imp kill nb nr rv).2.2 bl vl →
      R st' e' (imp kill nb nr rv).1 x ∧ ∀ (i : Nat) (b : Box) (g : Nat) (vs : List Value), (imp kill nb nr rv).2.1[i]? = some (some b) → bl[i]? = some g → w.heap[g]? = some (.cells vs.toArray b.T (0, 0)) → RL st' e' b.cells vs := by
  cases n with
  | zero => simp [resolveF] at hr
  | succ n =>
  cases v with
  | box id off =>
    simp only [resolveF] at hr
    split at hr
    · rename_i T cells own hb
      split at hr
      · rename_i l hl
        cases hr
        obtain ⟨_, rfl⟩ := h
        obtain ⟨⟨vs, h1, h2, h3⟩, h4⟩ := hh.box id _ hb
        have h2 := selfA_RL (id := id) h2
        simp only [vws] at hk
        obtain ⟨bl, vl, h5, h6⟩ := impL_spec hh (nb + 1) nr n _ l vs hl h2 hk
        simp only [imp, occ]
        refine ⟨e.β id :: bl, vl, ?_, fun st' e' hf => ?_⟩
        · have h7 : Handed e st w kill [some ⟨T, (impL kill (nb + 1) nr l).1, false⟩] [] [e.β id] [] [] := by
            refine ⟨rfl, rfl, rfl, fun i b hi => ?_, fun i r hi => by simp at hi⟩
            cases i with
            | zero =>
              simp at hi; subst hi
              refine ⟨rfl, _, rfl, hh.box_lt hb, fun id' hid' => ?_, vs, h1, h3⟩
              cases own with
              | true => exact hh.apart id id' (e.β id) (by simp [blkB, hb]) hid'
              | false => exact fixed_ne h4 (hh.blkR_mine hid').1
            | succ i => simp at hi
          exact h7.app h5
        · have hf' : Fits st' e' (nb + 1) nr (impL kill (nb + 1) nr l).2.1 (impL kill (nb + 1) nr l).2.2 bl vl := by
            have : Fits st' e' nb nr ([some ⟨T, (impL kill (nb + 1) nr l).1, false⟩] ++ (impL kill (nb + 1) nr l).2.1) ([] ++ (impL kill (nb + 1) nr l).2.2) ([e.β id] ++ bl) ([] ++ vl) := hf
            exact Fits.right (bl := [e.β id]) (vl := []) (rs := []) rfl rfl this
          obtain ⟨h8, h9⟩ := h6 st' e' hf'
          refine ⟨⟨⟨_, hf.1 0 _ rfl⟩, by have := hf.2.2.1 0 _ rfl; simp at this; simp [this]⟩, fun i b g vs' hi hg hw => ?_⟩
          cases i with
          | zero =>
            simp at hi hg
            subst hi; subst hg
            rw [h1] at hw
            simp only [Option.some.injEq, Obj.cells.injEq] at hw
            have : vs = vs' := by simpa using hw.1
            subst this
            exact h8
          | succ i => exact h9 i b g vs' (by simpa using hi) (by simpa using hg) hw
      · cases hr
    · cases hr
  | row id =>
    simp only [resolveF] at hr
    split at hr
    · rename_i r hrr
      cases hr
      obtain ⟨_, rfl⟩ := h
      refine ⟨[], [e.ρ id], ⟨rfl, rfl, rfl, fun i b hi => by simp [imp] at hi, fun i q hi => ?_⟩, fun st' e' hf => ⟨?_, fun i b g vs hi => by simp [imp] at hi⟩⟩
      · cases i with
        | zero =>
          simp [imp] at hi; subst hi
          refine ⟨_, id, rfl, rfl, ?_⟩
          by_cases hc : (kill.contains id && r.own) = true
          · left
            simp only [Bool.and_eq_true, List.contains_eq_mem, decide_eq_true_eq] at hc
            have h1 := (hh.row id r hrr).2
            rw [hc.2] at h1
            refine ⟨by simp [hc.1, hc.2], hc.1, h1.1, fun g hg => by simp [blkR, hrr, hc.2, hg]⟩
          · right
            have h1 := row_handed (kill := kill) (r := r) hh hrr (fun ho hin => hc (by simp [ho, hin]))
            exact ⟨by simpa using hc, h1⟩
        | succ i => simp [imp] at hi
      · exact ⟨⟨_, hf.2.1 0 _ rfl⟩, by have := hf.2.2.2 0 _ rfl; simp at this; exact this.symm⟩
    · cases hr
  | view id lo hi ex =>
    simp only [resolveF] at hr
    split at hr
    · rename_i r hrr
      cases hr
      refine ⟨[], [x], ⟨rfl, rfl, rfl, fun i b hi => by simp [imp] at hi, fun i q hi' => ?_⟩, fun st' e' hf => ⟨?_, fun i b g vs hi => by simp [imp] at hi⟩⟩
      · cases i with
        | zero =>
          simp [imp] at hi'; subst hi'
          exact ⟨_, id, rfl, rfl, .inr ⟨rfl, view_handed hh hrr (hk id (by simp [vws])) h⟩⟩
        | succ i => simp [imp] at hi'
      · exact ⟨⟨_, hf.2.1 0 _ rfl⟩, by have := hf.2.2.2 0 _ rfl; simp at this; exact this.symm⟩
    · cases hr
  | arrp id => simp only [resolveF] at hr; split at hr <;> cases hr; exact ⟨[], [], Handed.nil, fun st' e' _ => ⟨trivial, fun i b g vs hi => by simp [imp] at hi⟩⟩
  | elt id ix sub => simp only [resolveF] at hr; split at hr <;> cases hr; exact ⟨[], [], Handed.nil, fun st' e' _ => ⟨trivial, fun i b g vs hi => by simp [imp] at hi⟩⟩
  | fn f l =>
    simp only [resolveF] at hr
    split at hr
    · rename_i rl hl
      cases hr
      obtain ⟨vs, rfl, h2⟩ := h
      obtain ⟨bl, vl, h3, h4⟩ := impL_spec hh nb nr n l rl vs hl h2 hk
      exact ⟨bl, vl, h3, fun st' e' hf => ⟨⟨vs, rfl, (h4 st' e' hf).1⟩, (h4 st' e' hf).2⟩⟩
    · cases hr
  | agg l =>
    simp only [resolveF] at hr
    split at hr
    · rename_i rl hl
      cases hr
      obtain ⟨vs, rfl, h2⟩ := h
      obtain ⟨bl, vl, h3, h4⟩ := impL_spec hh nb nr n l rl vs hl h2 hk
      exact ⟨bl, vl, h3, fun st' e' hf => ⟨⟨vs, rfl, (h4 st' e' hf).1⟩, (h4 st' e' hf).2⟩⟩
    · cases hr
  | tup l =>
    simp only [resolveF] at hr
    split at hr
    · rename_i rl hl
      cases hr
      obtain ⟨vs, rfl, h2⟩ := h
      obtain ⟨bl, vl, h3, h4⟩ := impL_spec hh nb nr n l rl vs hl h2 hk
      exact ⟨bl, vl, h3, fun st' e' hf => ⟨⟨vs, rfl, (h4 st' e' hf).1⟩, (h4 st' e' hf).2⟩⟩
    · cases hr
  | i k m => simp only [resolveF] at hr; cases hr; exact ⟨[], [], Handed.nil, fun st' e' _ => ⟨h, fun i b g vs hi => by simp [imp] at hi⟩⟩
  | b y => simp only [resolveF] at hr; cases hr; exact ⟨[], [], Handed.nil, fun st' e' _ => ⟨h, fun i b g vs hi => by simp [imp] at hi⟩⟩
  | s y => simp only [resolveF] at hr; cases hr; exact ⟨[], [], Handed.nil, fun st' e' _ => ⟨h, fun i b g vs hi => by simp [imp] at hi⟩⟩
  | nilp => simp only [resolveF] at hr; cases hr; exact ⟨[], [], Handed.nil, fun st' e' _ => ⟨h, fun i b g vs hi => by simp [imp] at hi⟩⟩
  | mp b => simp only [resolveF] at hr; cases hr; exact ⟨[], [], Handed.nil, fun st' e' _ => ⟨h, fun i b g vs hi => by simp [imp] at hi⟩⟩
  | pt b => simp only [resolveF] at hr; cases hr; exact ⟨[], [], Handed.nil, fun st' e' _ => ⟨h, fun i b g vs hi => by simp [imp] at hi⟩⟩
  | nilf => simp only [resolveF] at hr; cases hr; exact ⟨[], [], Handed.nil, fun st' e' _ => ⟨h, fun i b g vs hi => by simp [imp] at hi⟩⟩
  | nili => simp only [resolveF] at hr; cases hr; exact ⟨[], [], Handed.nil, fun st' e' _ => ⟨h, fun i b g vs hi => by simp [imp] at hi⟩⟩
  | nils => simp only [resolveF] at hr; cases hr; exact ⟨[], [], Handed.nil, fun st' e' _ => ⟨h, fun i b g vs hi => by simp [imp] at hi⟩⟩
  | yv => simp [resolveF] at hr
  | opt g v => simp [resolveF] at hr
  | ifc T v =>
    simp only [resolveF] at hr
    split at hr
    · rename_i hcl
      cases hr; exact ⟨[], [], Handed.nil, fun st' e' _ => ⟨closed_R (.ifc T v) _ (by simpa [AV.closed] using hcl) h, fun i b g vs hi => by simp [imp] at hi⟩⟩
    · cases hr
  | any => simp only [resolveF] at hr; cases hr; exact ⟨[], [], Handed.nil, fun st' e' _ => ⟨trivial, fun i b g vs hi => by simp [imp] at hi⟩⟩
  termination_by n
theorem impL_spec {kill : List Nat} (hh : HeapOK c e st w) (nb nr n : Nat) (l : List AV) (rl : List RV) (vs : List Value) (hr : resolveFL st.boxes st.rows n l = some rl) (h : RL st e l vs) (hk : ∀ id ∈ vwsL rl, id ∉ kill) :
    ∃ bl vl, Handed e st w kill (impL kill nb nr rl).2.1 (impL kill nb nr rl).2.2 bl vl (occL rl) ∧ ∀ st' e', Fits st' e' nb nr (impL kill nb nr rl).2.1 (impL kill nb nr rl).2.2 bl vl →
      RL st' e' (impL kill nb nr rl).1 vs ∧ ∀ (i : Nat) (b : Box) (g : Nat) (vs : List Value), (impL kill nb nr rl).2.1[i]? = some (some b) → bl[i]? = some g → w.heap[g]? = some (.cells vs.toArray b.T (0, 0)) → RL st' e' b.cells vs := by
  cases n with
  | zero => simp [resolveFL] at hr
  | succ n =>
  cases l with
  | nil =>
    simp only [resolveFL, Option.some.injEq] at hr
    subst hr
    exact ⟨[], [], Handed.nil, fun st' e' _ => ⟨h, fun i b g vs hi => by simp [impL] at hi⟩⟩
  | cons x l =>
    obtain ⟨r, m, h1, h2, rfl⟩ := resolveFL_cons hr
    obtain ⟨v, vs', rfl, h3, h4⟩ := h
    simp only [vwsL, List.mem_append] at hk
    obtain ⟨bl, vl, h5, h6⟩ := imp_spec hh nb nr n x r v h1 h3 (fun id hid => hk id (.inl hid))
    obtain ⟨bl', vl', h7, h8⟩ := impL_spec hh (nb + (imp kill nb nr r).2.1.length) (nr + (imp kill nb nr r).2.2.length) n l m vs' h2 h4 (fun id hid => hk id (.inr hid))
    simp only [impL, appendList_eq, occL]
    refine ⟨bl ++ bl', vl ++ vl', h5.app h7, fun st' e' hf => ?_⟩
    obtain ⟨h9, h10⟩ := h6 st' e' hf.left
    obtain ⟨h11, h12⟩ := h8 st' e' (hf.right h5.lb h5.lr)
    refine ⟨⟨v, vs', rfl, h9, h11⟩, fun i b g vs hi hg hw => ?_⟩
    by_cases hlt : i < (imp kill nb nr r).2.1.length
    · rw [List.getElem?_append_left hlt] at hi
      rw [List.getElem?_append_left (by rw [h5.lb]; exact hlt)] at hg
      exact h10 i b g vs hi hg hw
    · rw [List.getElem?_append_right (Nat.le_of_not_lt hlt)] at hi
      rw [List.getElem?_append_right (by rw [h5.lb]; exact Nat.le_of_not_lt hlt), h5.lb] at hg
      exact h12 _ b g vs hi hg hw
  termination_by n
end

def resolvesTo (st : St) : List AV → List RV → Prop
  | [], [] => True
  | x :: l, y :: m => resolve st x = some y ∧ resolvesTo st l m
  | _, _ => False

theorem normL_cons (sh : List (Option (TypeId × EK))) (r : RV) (m : List RV) : ∃ r', normL sh (r :: m) = r' :: normL sh.tail m ∧ (r' = r ∨ ∃ T k, r = .a .nils ∧ r' = .row 999999 ⟨T, k, [], true⟩) := by
  cases sh with
  | nil => exact ⟨r, by cases m <;> rfl, .inl rfl⟩
  | cons s sh =>
    cases s with
    | none => exact ⟨r, rfl, .inl rfl⟩
    | some q =>
      obtain ⟨T, k⟩ := q
      by_cases hrn : r = .a .nils
      · subst hrn; exact ⟨_, rfl, .inr ⟨T, k, rfl, rfl⟩⟩
      · refine ⟨r, ?_, .inl rfl⟩
        cases r with
        | a v => cases v <;> first | rfl | exact absurd rfl hrn
        | _ => rfl

theorem impA_spec {kill : List Nat} (hh : HeapOK c e st w) : ∀ (l : List AV) (sh : List (Option (TypeId × EK))) (nb nr : Nat) (rl : List RV) (vs : List Value) (_ : resolvesTo st l rl) (_ : RL st e l vs) (_ : ∀ id ∈ vwsL (normL sh rl), id ∉ kill),
    ∃ bl vl, Handed e st w kill (impL kill nb nr (normL sh rl)).2.1 (impL kill nb nr (normL sh rl)).2.2 bl vl (occL (normL sh rl)) ∧ ∀ st' e', Fits st' e' nb nr (impL kill nb nr (normL sh rl)).2.1 (impL kill nb nr (normL sh rl)).2.2 bl vl →
      RL st' e' (impL kill nb nr (normL sh rl)).1 vs ∧ ∀ (i : Nat) (b : Box) (g : Nat) (vs : List Value), (impL kill nb nr (normL sh rl)).2.1[i]? = some (some b) → bl[i]? = some g → w.heap[g]? = some (.cells vs.toArray b.T (0, 0)) → RL st' e' b.cells vs := by
  intro l
  induction l with
  | nil =>
    intro sh nb nr rl vs hr h hk
    cases rl with
    | cons _ _ => exact hr.elim
    | nil =>
    have : normL sh [] = [] := by cases sh with
      | nil => rfl
      | cons s sh => cases s <;> rfl
    rw [this] at hk ⊢
    exact ⟨[], [], Handed.nil, fun st' e' _ => ⟨h, fun i b g vs hi => by simp [impL] at hi⟩⟩
  | cons x l ih =>
    intro sh nb nr rl vs hr h hk
    cases rl with
    | nil => exact hr.elim
    | cons r m =>
    obtain ⟨h1, h2⟩ := hr
    obtain ⟨v, vs', rfl, h3, h4⟩ := h
    obtain ⟨r', hn, hr'⟩ := normL_cons sh r m
    rw [hn] at hk ⊢
    simp only [vwsL, List.mem_append] at hk
    have h5' : ∃ bl vl, Handed e st w kill (imp kill nb nr r').2.1 (imp kill nb nr r').2.2 bl vl (occ r') ∧ ∀ st' e', Fits st' e' nb nr (imp kill nb nr r').2.1 (imp kill nb nr r').2.2 bl vl →
        R st' e' (imp kill nb nr r').1 v ∧ ∀ (i : Nat) (b : Box) (g : Nat) (vs : List Value), (imp kill nb nr r').2.1[i]? = some (some b) → bl[i]? = some g → w.heap[g]? = some (.cells vs.toArray b.T (0, 0)) → RL st' e' b.cells vs := by
      rcases hr' with rfl | ⟨T, k, rfl, rfl⟩
      · exact imp_spec hh nb nr 200 x r' v h1 h3 (fun id hid => hk id (.inl hid))
      · obtain ⟨rfl, _⟩ := res_a_same (n := 200) h1
        have hv : v = .slice none 0 0 := h3
        subst hv
        refine ⟨[], [.slice none 0 0], ⟨rfl, rfl, rfl, fun i b hi => by simp [imp] at hi, fun i q hi => ?_⟩, fun st' e' hf => ⟨?_, fun i b g vs hi => by simp [imp] at hi⟩⟩
        · cases i with
          | zero =>
            simp [imp] at hi; subst hi
            refine ⟨_, 999999, rfl, rfl, ?_⟩
            by_cases hc : 999999 ∈ kill
            · exact .inl ⟨by simp [hc], hc, .inl ⟨rfl, rfl⟩, fun g hg => by simp [Value.ownBlock] at hg⟩
            · exact .inr ⟨by simp [hc], none, 0, rfl, by simp, fun _ => rfl, fun j u hj => by simp [valsOf] at hj⟩
          | succ i => simp [imp] at hi
        · exact ⟨⟨_, hf.2.1 0 _ rfl⟩, by have := hf.2.2.2 0 _ rfl; simp at this; exact this.symm⟩
    obtain ⟨bl, vl, h5, h6⟩ := h5'
    obtain ⟨bl', vl', h7, h8⟩ := ih sh.tail (nb + (imp kill nb nr r').2.1.length) (nr + (imp kill nb nr r').2.2.length) m vs' h2 h4 (fun id hid => hk id (.inr hid))
    simp only [impL, appendList_eq, occL]
    refine ⟨bl ++ bl', vl ++ vl', h5.app h7, fun st' e' hf => ?_⟩
    obtain ⟨h9, h10⟩ := h6 st' e' hf.left
    obtain ⟨h11, h12⟩ := h8 st' e' (hf.right h5.lb h5.lr)
    refine ⟨⟨v, vs', rfl, h9, h11⟩, fun i b g vs hi hg hw => ?_⟩
    by_cases hlt : i < (imp kill nb nr r').2.1.length
    · rw [List.getElem?_append_left hlt] at hi
      rw [List.getElem?_append_left (by rw [h5.lb]; exact hlt)] at hg
      exact h10 i b g vs hi hg hw
    · rw [List.getElem?_append_right (Nat.le_of_not_lt hlt)] at hi
      rw [List.getElem?_append_right (by rw [h5.lb]; exact Nat.le_of_not_lt hlt), h5.lb] at hg
      exact h12 _ b g vs hi hg hw

theorem resolve_mono {bs : List (Option Box)} {rs : List (Option Row)} : ∀ n : Nat, (∀ v r, resolveF bs rs n v = some r → resolveF bs rs (n + 1) v = some r) ∧ (∀ l m, resolveFL bs rs n l = some m → resolveFL bs rs (n + 1) l = some m) := by
  intro n
  induction n with
  | zero => exact ⟨fun v r h => by simp [resolveF] at h, fun l m h => by simp [resolveFL] at h⟩
  | succ n ih =>
    obtain ⟨ih1, ih2⟩ := ih
    constructor
    · intro v r h
      cases v with
      | box id off =>
        simp only [resolveF] at h ⊢
        split at h
        · rename_i T cells own hb
          try simp only [hb]
          split at h
          · rename_i l hl
            have := ih2 _ _ hl
            simp only [this]
            exact h
          · cases h
        · cases h
      | fn f l =>
        simp only [resolveF] at h ⊢
        split at h
        · rename_i l hl; have := ih2 _ _ hl; simp only [this]; exact h
        · cases h
      | agg l =>
        simp only [resolveF] at h ⊢
        split at h
        · rename_i l hl; have := ih2 _ _ hl; simp only [this]; exact h
        · cases h
      | tup l =>
        simp only [resolveF] at h ⊢
        split at h
        · rename_i l hl; have := ih2 _ _ hl; simp only [this]; exact h
        · cases h
      | _ => simpa only [resolveF] using h
    · intro l m h
      cases l with
      | nil => simpa only [resolveFL] using h
      | cons x l =>
        obtain ⟨r, m', h1, h2, rfl⟩ := resolveFL_cons h
        have h3 := ih1 _ _ h1
        have h4 := ih2 _ _ h2
        simp only [resolveFL] at h3 h4 ⊢
        simp only [h3, h4]

theorem resolve_le {bs : List (Option Box)} {rs : List (Option Row)} {n m : Nat} (hnm : n ≤ m) {v : AV} {r : RV} (h : resolveF bs rs n v = some r) : resolveF bs rs m v = some r := by
  induction hnm with
  | refl => exact h
  | step _ ih => exact (resolve_mono _).1 _ _ ih

theorem resolves_fuel {st : St} : ∀ {l : List AV} {m : List RV}, resolvesTo st l m → resolveFL st.boxes st.rows (201 + l.length) l = some m := by
  intro l
  induction l with
  | nil => intro m h; cases m with
    | nil => rfl
    | cons _ _ => exact h.elim
  | cons x l ih =>
    intro m h
    cases m with
    | nil => exact h.elim
    | cons y m =>
      have h1 := resolve_le (m := 201 + l.length) (by omega) h.1
      have h2 := ih h.2
      show resolveFL st.boxes st.rows ((201 + l.length) + 1) (x :: l) = _
      simp only [resolveFL, h1, h2]

theorem HeapOK.blkB_mine (hh : HeapOK c e st w) {id g : Nat} (h : blkB e st id = some g) : Mine c e.M g := by
  simp only [blkB] at h
  cases hq : getK none st.boxes id with
  | none => rw [hq] at h; cases h
  | some b =>
    rw [hq] at h
    have h1 := (hh.box id b hq).2
    cases hbo : b.own
    · simp [hbo] at h
    · simp [hbo] at h; rw [hbo] at h1; subst h; exact h1

theorem count_inj {l : List Nat} {x : Nat} (h : l.count x ≤ 1) {i j : Nat} (hi : l[i]? = some x) (hj : l[j]? = some x) : i = j := by
  induction l generalizing i j with
  | nil => simp at hi
  | cons y l ih =>
    cases i with
    | zero =>
      cases j with
      | zero => rfl
      | succ j =>
        simp at hi hj
        subst hi
        have : y ∈ l := List.mem_of_getElem? hj
        have := List.count_pos_iff.2 this
        simp at h; omega
    | succ i =>
      cases j with
      | zero =>
        simp at hi hj
        subst hj
        have : y ∈ l := List.mem_of_getElem? hi
        have := List.count_pos_iff.2 this
        simp at h; omega
      | succ j =>
        simp at hi hj
        have : l.count x ≤ 1 := by
          rw [List.count_cons] at h; omega
        rw [ih this hi hj]
theorem inner_ok {kill : List Nat} {bs : List (Option Box)} {rs : List (Option Row)} {bl : List Nat} {vl : List Value} {il : List Nat} {ts : List AV} {e0 : Env} (hh : HeapOK c e st w) (hd : Handed e st w kill bs rs bl vl il) (hil : ∀ id ∈ kill, il.count id ≤ 1)
    (h0 : e0 = ⟨fun i => (bl[i]?).getD 0, fun i => (vl[i]?).getD undef, fun _ => False, [], 0⟩)
    (hc : ∀ (i : Nat) (b : Box) (g : Nat) (vs : List Value), bs[i]? = some (some b) → bl[i]? = some g → w.heap[g]? = some (.cells vs.toArray b.T (0, 0)) → RL ⟨ts, bs, rs, [], []⟩ e0 b.cells vs) :
    HeapOK (inner c e st w kill hh) e0 ⟨ts, bs, rs, [], []⟩ w := by
  have hgb : ∀ id bx, getK none bs id = some bx → bs[id]? = some (some bx) := fun id bx hb => by
    rw [getK_eq] at hb
    cases hq : bs[id]? with
    | none => rw [hq] at hb; cases hb
    | some q => rw [hq] at hb; simp at hb; rw [hb]
  have hgr : ∀ id r, getK none rs id = some r → rs[id]? = some (some r) := fun id r hb => by
    rw [getK_eq] at hb
    cases hq : rs[id]? with
    | none => rw [hq] at hb; cases hb
    | some q => rw [hq] at hb; simp at hb; rw [hb]
  have hB : ∀ i, blkB e0 ⟨ts, bs, rs, [], []⟩ i = none := fun i => by
    simp only [blkB]
    cases hq : getK none bs i with
    | none => rfl
    | some b => simp [(hd.box i b (hgb i b hq)).1]
  have hM : ∀ k, ¬ e0.M k := fun k h => by rw [h0] at h; exact h
  have hR : ∀ i g, blkR e0 ⟨ts, bs, rs, [], []⟩ i = some g → ∃ id, il[i]? = some id ∧ id ∈ kill ∧ blkR e st id = some g := fun i g h => by
    simp only [blkR] at h
    cases hq : getK none rs i with
    | none => rw [hq] at h; cases h
    | some r =>
      rw [hq] at h
      obtain ⟨v, id, h1, h2, h3⟩ := hd.row i r (hgr i r hq)
      cases hro : r.own
      · simp [hro] at h
      · rcases h3 with ⟨_, h4, _, h5⟩ | ⟨h4, _⟩
        · simp only [hro, if_true] at h
          rw [h0] at h
          simp only [h1, Option.getD_some] at h
          exact ⟨id, h2, h4, h5 g h⟩
        · rw [hro] at h4; cases h4
  refine ⟨⟨rfl, rfl, rfl, Nat.le_refl _, fun _ _ _ => rfl⟩, fun i b hb => ?_, fun i r hr => ?_, fun i j g h1 => ?_, fun i j g h1 h2 => ?_, fun i j g h1 => ?_, hM, fun D hD => ?_, fun D hD => ?_, fun k hk => absurd hk (hM k), ?_, by rw [h0]; exact List.nodup_nil, rfl⟩
  · obtain ⟨h1, g, h2, h3, h4, vs, h5, h6⟩ := hd.box i b (hgb i b hb)
    have hβ : e0.β i = g := by rw [h0]; simp [h2]
    refine ⟨⟨vs, by rw [hβ]; exact h5, hc i b g vs (hgb i b hb) h2 h5, h6⟩, ?_⟩
    rw [h1, hβ]
    exact ⟨h3, fun ⟨id, _, hid⟩ => h4 id hid, hM g⟩
  · obtain ⟨v, id, h1, h2, h3⟩ := hd.row i r (hgr i r hr)
    have hρ : e0.ρ i = v := by rw [h0]; simp [h1]
    refine ⟨size_pos _, ?_⟩
    rcases h3 with ⟨h4, h5, h6, h7⟩ | ⟨h4, p, cap, h5, h6, h7, h8⟩
    · rw [h4, hρ]
      exact ⟨h6, fun g hg => ⟨.inr ⟨id, h5, h7 g hg⟩, hM g⟩⟩
    · rw [h4, hρ]
      exact ⟨p, cap, h5, h6, h7, fun j u hj => by obtain ⟨b, h9, h10, h11, h12⟩ := h8 j u hj; exact ⟨b, h9, ⟨h10, h11, hM _⟩, h12⟩⟩
  · rw [hB] at h1; cases h1
  · obtain ⟨id, h3, h4, h5⟩ := hR i g h1
    obtain ⟨id', h6, h7, h8⟩ := hR j g h2
    obtain rfl := hh.injR _ _ _ h5 h8
    exact count_inj (hil id h4) h3 h6
  · rw [hB] at h1; cases h1
  · rw [h0] at hD; cases hD
  · rw [h0] at hD; cases hD
  · rw [h0]; rfl

structure Outs (e : Env) (st : St) (w : World) (bs : List Box) (rs : List Row) (bl : List Nat) (vl : List Value) (bi ri : List (Option Nat)) : Prop where
  lb : bl.length = bs.length
  lr : vl.length = rs.length
  lbi : bi.length = bs.length
  lri : ri.length = rs.length
  box : ∀ (i : Nat) (b : Box), bs[i]? = some b → b.own = true ∧ ∃ id g, bi[i]? = some (some id) ∧ bl[i]? = some g ∧ blkB e st id = some g ∧ ∃ vs : List Value, w.heap[g]? = some (.cells vs.toArray b.T (0, 0)) ∧ ∀ v ∈ vs, v.oneCell' = true
  row : ∀ (i : Nat) (r : Row), rs[i]? = some r → r.own = true → ∃ v : Value, vl[i]? = some v ∧ Owns w r.T r.k v r.l ∧ ∀ g, v.ownBlock = some g → ∃ id, ri[i]? = some (some id) ∧ blkR e st id = some g

theorem Outs.nil {e : Env} {st : St} {w : World} : Outs e st w [] [] [] [] [] [] := ⟨rfl, rfl, rfl, rfl, fun i b h => by simp at h, fun i b h => by simp at h⟩
theorem Outs.app {e : Env} {st : St} {w : World} {bs bs' : List Box} {rs rs' : List Row} {bl bl' : List Nat} {vl vl' : List Value} {bi bi' ri ri' : List (Option Nat)} (h : Outs e st w bs rs bl vl bi ri) (h' : Outs e st w bs' rs' bl' vl' bi' ri') :
    Outs e st w (bs ++ bs') (rs ++ rs') (bl ++ bl') (vl ++ vl') (bi ++ bi') (ri ++ ri') := by
  refine ⟨by simp [h.lb, h'.lb], by simp [h.lr, h'.lr], by simp [h.lbi, h'.lbi], by simp [h.lri, h'.lri], fun i b hb => ?_, fun i r hr ho => ?_⟩
  · by_cases hi : i < bs.length
    · rw [List.getElem?_append_left hi] at hb
      obtain ⟨h1, id, g, h2, h3, h4⟩ := h.box i b hb
      exact ⟨h1, id, g, by rw [List.getElem?_append_left (by rw [h.lbi]; exact hi)]; exact h2, by rw [List.getElem?_append_left (by rw [h.lb]; exact hi)]; exact h3, h4⟩
    · rw [List.getElem?_append_right (by omega)] at hb
      obtain ⟨h1, id, g, h2, h3, h4⟩ := h'.box _ b hb
      exact ⟨h1, id, g, by rw [List.getElem?_append_right (by rw [h.lbi]; omega), h.lbi]; exact h2, by rw [List.getElem?_append_right (by rw [h.lb]; omega), h.lb]; exact h3, h4⟩
  · by_cases hi : i < rs.length
    · rw [List.getElem?_append_left hi] at hr
      obtain ⟨v, h1, h2, h3⟩ := h.row i r hr ho
      exact ⟨v, by rw [List.getElem?_append_left (by rw [h.lr]; exact hi)]; exact h1, h2, fun g hg => by rw [List.getElem?_append_left (by rw [h.lri]; exact hi)]; exact h3 g hg⟩
    · rw [List.getElem?_append_right (by omega)] at hr
      obtain ⟨v, h1, h2, h3⟩ := h'.row _ r hr ho
      exact ⟨v, by rw [List.getElem?_append_right (by rw [h.lr]; omega), h.lr]; exact h1, h2, fun g hg => by rw [List.getElem?_append_right (by rw [h.lri]; omega), h.lri]; exact h3 g hg⟩
def Fits2 (st : St) (e : Env) (nb nr : Nat) (bs : List Box) (rs : List Row) (bl : List Nat) (vl : List Value) : Prop :=
  (∀ (i : Nat) (b : Box), bs[i]? = some b → getK none st.boxes (nb + i) = some b) ∧ (∀ (i : Nat) (r : Row), rs[i]? = some r → getK none st.rows (nr + i) = some r) ∧
  (∀ (i g : Nat), bl[i]? = some g → e.β (nb + i) = g) ∧ (∀ (i : Nat) (v : Value), vl[i]? = some v → e.ρ (nr + i) = v)
theorem Fits2.left {st : St} {e : Env} {nb nr : Nat} {bs bs' : List Box} {rs rs' : List Row} {bl bl' : List Nat} {vl vl' : List Value} (h : Fits2 st e nb nr (bs ++ bs') (rs ++ rs') (bl ++ bl') (vl ++ vl')) : Fits2 st e nb nr bs rs bl vl := by
  obtain ⟨h1, h2, h3, h4⟩ := h
  have key : ∀ {α : Type} (l m : List α) (i : Nat) (x : α), l[i]? = some x → (l ++ m)[i]? = some x := fun l m i x hx => by
    rw [List.getElem?_append_left (List.getElem?_eq_some_iff.1 hx).1]; exact hx
  exact ⟨fun i b hb => h1 i b (key _ _ _ _ hb), fun i b hb => h2 i b (key _ _ _ _ hb), fun i b hb => h3 i b (key _ _ _ _ hb), fun i b hb => h4 i b (key _ _ _ _ hb)⟩
theorem Fits2.right {st : St} {e : Env} {nb nr : Nat} {bs bs' : List Box} {rs rs' : List Row} {bl bl' : List Nat} {vl vl' : List Value} (hb : bl.length = bs.length) (hr : vl.length = rs.length) (h : Fits2 st e nb nr (bs ++ bs') (rs ++ rs') (bl ++ bl') (vl ++ vl')) :
    Fits2 st e (nb + bs.length) (nr + rs.length) bs' rs' bl' vl' := by
  obtain ⟨h1, h2, h3, h4⟩ := h
  have key : ∀ {α : Type} (l m : List α) (i : Nat) (x : α), m[i]? = some x → (l ++ m)[l.length + i]? = some x := fun l m i x hx => by
    rw [List.getElem?_append_right (by omega)]; simpa using hx
  refine ⟨fun i b hx => ?_, fun i b hx => ?_, fun i b hx => ?_, fun i b hx => ?_⟩
  · have := h1 _ b (key bs bs' i _ hx); rwa [← Nat.add_assoc] at this
  · have := h2 _ b (key rs rs' i _ hx); rwa [← Nat.add_assoc] at this
  · have := h3 _ b (key bl bl' i _ hx); rw [hb] at this; rwa [← Nat.add_assoc] at this
  · have := h4 _ b (key vl vl' i _ hx); rw [hr] at this; rwa [← Nat.add_assoc] at this

theorem Owns.front {T : TypeId} {k : EK} {a : Option Addr} {n cap hi : Nat} {l : List k.ty} (h : Owns w T k (.slice a n cap) l) (hhi : hi ≤ l.length) (hnil : a = none → cap = 0) : Owns w T k (.slice a hi cap) (l.take hi) := by
  rcases h with ⟨h1, h2⟩ | ⟨g, cap', cur, fz, h1, h2, h3, h4, h5, h6, h7⟩
  · simp only [Value.slice.injEq] at h1
    obtain ⟨rfl, rfl, rfl⟩ := h1
    left
    rw [h2] at hhi
    have : hi = 0 := by simpa using hhi
    subst this
    exact ⟨rfl, by simp⟩
  · simp only [Value.slice.injEq] at h1
    obtain ⟨rfl, rfl, rfl⟩ := h1
    right
    have hl : (l.take hi).length = hi := by simp; omega
    refine ⟨g, cap, cur, fz, by rw [hl], h2, h3, by rw [hl]; omega, h5, h6, ?_⟩
    rw [hl, ← valsOf_take, ← h7, List.take_take, Nat.min_eq_left (Nat.mul_le_mul_right _ hhi)]

mutual
theorem out_spec (hh : HeapOK c e st w) (fb fr n : Nat) (x : RT) (v : AV) (y : RV) (u : Value) (hr : resolveF st.boxes st.rows n v = some y) (h : R st e v u) (hc : chk x y) :
    ∃ bl vl, Outs e st w (x.inst fb fr).2.1 (x.inst fb fr).2.2 bl vl (bidsOf x y) (idsOf x y) ∧ ∀ st' e', Fits2 st' e' fb fr (x.inst fb fr).2.1 (x.inst fb fr).2.2 bl vl →
      R st' e' (x.inst fb fr).1 u ∧ ∀ (i : Nat) (b : Box) (g : Nat) (vs : List Value), (x.inst fb fr).2.1[i]? = some b → bl[i]? = some g → w.heap[g]? = some (.cells vs.toArray b.T (0, 0)) → RL st' e' b.cells vs := by
  cases n with
  | zero => simp [resolveF] at hr
  | succ n =>
  cases x with
  | a v' =>
    cases y <;> simp only [chk] at hc
    subst hc
    obtain ⟨rfl, h2⟩ := res_a_same hr
    refine ⟨[], [], ?_, fun st' e' _ => ⟨h2 _ _ _ _ _ h, fun i b g vs hi => by simp [RT.inst] at hi⟩⟩
    simp only [RT.inst, bidsOf, idsOf]; exact Outs.nil
  | row r =>
    have one : ∀ (ri : List (Option Nat)), ri.length = 1 → (r.own = true → Owns w r.T r.k u r.l ∧ ∀ g, u.ownBlock = some g → ∃ id, ri[0]? = some (some id) ∧ blkR e st id = some g) →
        ∃ bl vl, Outs e st w [] [r] bl vl [] ri ∧ ∀ st' e', Fits2 st' e' fb fr [] [r] bl vl → R st' e' (.row fr) u ∧ ∀ (i : Nat) (b : Box) (g : Nat) (vs : List Value), ([] : List Box)[i]? = some b → bl[i]? = some g → w.heap[g]? = some (.cells vs.toArray b.T (0, 0)) → RL st' e' b.cells vs := by
      intro ri hri hro
      refine ⟨[], [u], ⟨rfl, rfl, rfl, hri, fun i b hi => by simp at hi, fun i q hi ho => ?_⟩, fun st' e' hf => ⟨⟨⟨_, hf.2.1 0 _ rfl⟩, by have := hf.2.2.2 0 _ rfl; simp at this; exact this.symm⟩, fun i b g vs hi => by simp at hi⟩⟩
      cases i with
      | zero => simp at hi; subst hi; exact ⟨u, rfl, hro ho⟩
      | succ i => simp at hi
    cases y with
    | row id r' =>
      simp only [chk] at hc
      subst hc
      simp only [RT.inst, bidsOf, idsOf]
      refine one _ rfl (fun ho => ?_)
      cases v <;> simp only [resolveF] at hr <;> (try (repeat' (split at hr))) <;> (try (cases hr; done))
      rename_i hid
      cases hr
      obtain ⟨_, rfl⟩ := h
      have h4 := (hh.row id r' hid).2
      rw [ho] at h4
      exact ⟨h4.1, fun g hg => ⟨id, rfl, by simp [blkR, hid, ho, hg]⟩⟩
    | view id lo hi ex r' =>
      simp only [chk] at hc
      obtain ⟨rfl, hhi, rfl, rfl⟩ := hc
      simp only [RT.inst, bidsOf, idsOf]
      refine one _ rfl (fun ho => ?_)
      cases v <;> simp only [resolveF] at hr <;> (try (repeat' (split at hr))) <;> (try (cases hr; done))
      rename_i hid
      cases hr
      obtain ⟨r2, hr2, h3, h4, p, m, cc, p', c', hρ, rfl, h7, h8, h9, h10⟩ := h
      rw [hid] at hr2; cases hr2
      obtain ⟨rfl, rfl⟩ := h8 rfl rfl
      simp only at ho
      have h4' := (hh.row id r' hid).2
      rw [ho] at h4'
      refine ⟨?_, fun g hg => ⟨id, rfl, ?_⟩⟩
      · have := h4'.1
        rw [hρ] at this
        simpa using this.front hhi h9
      · simp only [blkR, hid, ho, if_true, hρ]
        cases p' <;> exact hg
    | a v' =>
      cases v' <;> simp only [chk] at hc
      obtain ⟨rfl, h2⟩ := res_a_same hr
      have hu : u = .slice none 0 0 := h
      subst hu
      simp only [RT.inst, bidsOf, idsOf]
      refine one _ rfl (fun ho => ⟨.inl ⟨rfl, hc.1⟩, fun g hg => by simp [Value.ownBlock] at hg⟩)
    | _ => simp only [chk] at hc
  | box T l =>
    cases y <;> simp only [chk] at hc
    rename_i id off T' own m
    obtain ⟨rfl, rfl, rfl, hc⟩ := hc
    cases v <;> simp only [resolveF] at hr <;> (try (repeat' (split at hr))) <;> (try (cases hr; done))
    rename_i id' off' _ T2 cells own' hb _ m' hm
    cases hr
    obtain ⟨_, rfl⟩ := h
    obtain ⟨⟨vs, h1, h2, h3⟩, h4⟩ := hh.box id _ hb
    have h2 := selfA_RL (id := id) h2
    obtain ⟨bl, vl, h5, h6⟩ := outL_spec hh (fb + 1) fr n l _ m vs hm h2 hc
    simp only [RT.inst, bidsOf, idsOf]
    refine ⟨e.β id :: bl, vl, ?_, fun st' e' hf => ?_⟩
    · have h7 : Outs e st w [⟨T, (RT.instL (fb + 1) fr l).1, true⟩] [] [e.β id] [] [some id] [] := by
        refine ⟨rfl, rfl, rfl, rfl, fun i b hi => ?_, fun i r hi => by simp at hi⟩
        cases i with
        | zero =>
          simp at hi; subst hi
          exact ⟨rfl, id, _, rfl, rfl, by simp [blkB, hb], vs, h1, h3⟩
        | succ i => simp at hi
      exact h7.app h5
    · have hf' : Fits2 st' e' (fb + 1) fr (RT.instL (fb + 1) fr l).2.1 (RT.instL (fb + 1) fr l).2.2 bl vl := by
        have : Fits2 st' e' fb fr ([⟨T, (RT.instL (fb + 1) fr l).1, true⟩] ++ (RT.instL (fb + 1) fr l).2.1) ([] ++ (RT.instL (fb + 1) fr l).2.2) ([e.β id] ++ bl) ([] ++ vl) := hf
        exact Fits2.right (bl := [e.β id]) (vl := []) (rs := []) rfl rfl this
      obtain ⟨h8, h9⟩ := h6 st' e' hf'
      refine ⟨⟨⟨_, hf.1 0 _ rfl⟩, by have := hf.2.2.1 0 _ rfl; simp at this; simp [this]⟩, fun i b g vs' hi hg hw => ?_⟩
      cases i with
      | zero =>
        simp at hi hg
        subst hi; subst hg
        rw [h1] at hw
        simp only [Option.some.injEq, Obj.cells.injEq] at hw
        have : vs = vs' := by simpa using hw.1
        subst this
        exact h8
      | succ i => exact h9 i b g vs' (by simpa using hi) (by simpa using hg) hw
  | fn f l =>
    cases y <;> simp only [chk] at hc
    rename_i g m
    obtain ⟨rfl, hc⟩ := hc
    cases v <;> simp only [resolveF] at hr <;> (try (repeat' (split at hr))) <;> (try (cases hr; done))
    rename_i hm
    cases hr
    obtain ⟨vs, rfl, h2⟩ := h
    obtain ⟨bl, vl, h5, h6⟩ := outL_spec hh fb fr n l _ m vs hm h2 hc
    exact ⟨bl, vl, h5, fun st' e' hf => ⟨⟨vs, rfl, (h6 st' e' hf).1⟩, (h6 st' e' hf).2⟩⟩
  | agg l =>
    cases y <;> simp only [chk] at hc
    rename_i m
    cases v <;> simp only [resolveF] at hr <;> (try (repeat' (split at hr))) <;> (try (cases hr; done))
    rename_i hm
    cases hr
    obtain ⟨vs, rfl, h2⟩ := h
    obtain ⟨bl, vl, h5, h6⟩ := outL_spec hh fb fr n l _ m vs hm h2 hc
    exact ⟨bl, vl, h5, fun st' e' hf => ⟨⟨vs, rfl, (h6 st' e' hf).1⟩, (h6 st' e' hf).2⟩⟩
  | tup l =>
    cases y <;> simp only [chk] at hc
    rename_i m
    cases v <;> simp only [resolveF] at hr <;> (try (repeat' (split at hr))) <;> (try (cases hr; done))
    rename_i hm
    cases hr
    obtain ⟨vs, rfl, h2⟩ := h
    obtain ⟨bl, vl, h5, h6⟩ := outL_spec hh fb fr n l _ m vs hm h2 hc
    exact ⟨bl, vl, h5, fun st' e' hf => ⟨⟨vs, rfl, (h6 st' e' hf).1⟩, (h6 st' e' hf).2⟩⟩
  termination_by n
theorem outL_spec (hh : HeapOK c e st w) (fb fr n : Nat) (xs : List RT) (l : List AV) (ys : List RV) (us : List Value) (hr : resolveFL st.boxes st.rows n l = some ys) (h : RL st e l us) (hc : chkL xs ys) :
    ∃ bl vl, Outs e st w (RT.instL fb fr xs).2.1 (RT.instL fb fr xs).2.2 bl vl (bidsL xs ys) (idsL xs ys) ∧ ∀ st' e', Fits2 st' e' fb fr (RT.instL fb fr xs).2.1 (RT.instL fb fr xs).2.2 bl vl →
      RL st' e' (RT.instL fb fr xs).1 us ∧ ∀ (i : Nat) (b : Box) (g : Nat) (vs : List Value), (RT.instL fb fr xs).2.1[i]? = some b → bl[i]? = some g → w.heap[g]? = some (.cells vs.toArray b.T (0, 0)) → RL st' e' b.cells vs := by
  cases n with
  | zero => simp [resolveFL] at hr
  | succ n =>
  cases xs with
  | nil =>
    cases ys with
    | nil =>
      cases l with
      | nil =>
        refine ⟨[], [], ?_, fun st' e' _ => ⟨h, fun i b g vs hi => by simp [RT.instL] at hi⟩⟩
        simp only [RT.instL, bidsL, idsL]; exact Outs.nil
      | cons v l => obtain ⟨r, m, h1, h2, h3⟩ := resolveFL_cons hr; cases h3
    | cons y ys => exact hc.elim
  | cons x xs =>
    cases ys with
    | nil => exact hc.elim
    | cons y ys =>
      obtain ⟨hc1, hc2⟩ := hc
      cases l with
      | nil => have := resolveFL_nil hr; cases this
      | cons v l =>
        obtain ⟨r, m, h1, h2, h3⟩ := resolveFL_cons hr
        cases h3
        obtain ⟨u, us', rfl, h3, h4⟩ := h
        obtain ⟨bl, vl, h5, h6⟩ := out_spec hh fb fr n x v y u h1 h3 hc1
        obtain ⟨bl', vl', h7, h8⟩ := outL_spec hh (fb + (x.inst fb fr).2.1.length) (fr + (x.inst fb fr).2.2.length) n xs l ys us' h2 h4 hc2
        simp only [RT.instL, appendList_eq, bidsL, idsL]
        refine ⟨bl ++ bl', vl ++ vl', h5.app h7, fun st' e' hf => ?_⟩
        obtain ⟨h9, h10⟩ := h6 st' e' hf.left
        obtain ⟨h11, h12⟩ := h8 st' e' (hf.right h5.lb h5.lr)
        refine ⟨⟨u, us', rfl, h9, h11⟩, fun i b g vs hi hg hw => ?_⟩
        by_cases hlt : i < (x.inst fb fr).2.1.length
        · rw [List.getElem?_append_left hlt] at hi
          rw [List.getElem?_append_left (by rw [h5.lb]; exact hlt)] at hg
          exact h10 i b g vs hi hg hw
        · rw [List.getElem?_append_right (Nat.le_of_not_lt hlt)] at hi
          rw [List.getElem?_append_right (by rw [h5.lb]; exact Nat.le_of_not_lt hlt), h5.lb] at hg
          exact h12 _ b g vs hi hg hw
  termination_by n
end
structure Back (c : Ctx) (e : Env) (st : St) (w w1 : World) (kill : List Nat) : Prop where
  os : w1.os = w.os
  tape : w1.tape = w.tape
  output : w1.output = w.output
  size : w.heap.size ≤ w1.heap.size
  block : ∀ k, k < w.heap.size → ¬ killBlk e st kill k → w1.heap[k]? = w.heap[k]?

theorem Back.mine {kill : List Nat} (hh : HeapOK c e st w) {g : Nat} (hg : w.heap.size ≤ g ∨ killBlk e st kill g) : Mine c e.M g := by
  rcases hg with hg | ⟨id, _, h⟩
  · exact hh.new_m hg
  · exact (hh.blkR_mine h).1

theorem getK_killOne (l : List (Option Row)) (n i : Nat) : getK none (killOne l n) i = if i = n then none else getK none l i := by
  induction l generalizing n i with
  | nil => simp [killOne, getK]
  | cons x l ih =>
    cases n with
    | zero => cases i <;> simp [killOne, getK]
    | succ n => cases i with
      | zero => simp [killOne, getK]
      | succ i => simp [killOne, getK, ih]
theorem getK_killAll (l : List (Option Row)) (ns : List Nat) (i : Nat) : getK none (killAll l ns) i = if i ∈ ns then none else getK none l i := by
  induction ns generalizing l with
  | nil => simp [killAll]
  | cons n ns ih =>
    simp only [killAll, ih, getK_killOne, List.mem_cons]
    by_cases h1 : i ∈ ns <;> by_cases h2 : i = n <;> simp [h1, h2]

mutual
theorem inst_own (x : RT) (fb fr : Nat) (h : x.own = true) : ∀ (i : Nat) (r : Row), (x.inst fb fr).2.2[i]? = some r → r.own = true := by
  match x with
  | .a v => intro i r hi; simp [RT.inst] at hi
  | .row q =>
    intro i r hi
    cases i with
    | zero => simp [RT.inst] at hi; subst hi; exact h
    | succ i => simp [RT.inst] at hi
  | .box T l => exact instL_own l (fb + 1) fr h
  | .fn f l => exact instL_own l fb fr h
  | .agg l => exact instL_own l fb fr h
  | .tup l => exact instL_own l fb fr h
theorem instL_own (l : List RT) (fb fr : Nat) (h : RT.ownL l = true) : ∀ (i : Nat) (r : Row), (RT.instL fb fr l).2.2[i]? = some r → r.own = true := by
  match l with
  | [] => intro i r hi; simp [RT.instL] at hi
  | x :: l =>
    simp only [RT.ownL, Bool.and_eq_true] at h
    intro i r hi
    simp only [RT.instL, appendList_eq] at hi
    by_cases hlt : i < (x.inst fb fr).2.2.length
    · rw [List.getElem?_append_left hlt] at hi
      exact inst_own x fb fr h.1 i r hi
    · rw [List.getElem?_append_right (Nat.le_of_not_lt hlt)] at hi
      exact instL_own l _ _ h.2 _ r hi
end

theorem back_fits {kill : List Nat} {fb fr : Nat} {bs : List Box} {rs : List Row} {bl : List Nat} {vl : List Value} {bi ri : List (Option Nat)} {st1 : St} {e1 : Env} {w1 : World} {e' : Env} {st' : St}
    (ho : Outs e1 st1 w1 bs rs bl vl bi ri) (hst : st' = Eff.apply fb fr st (.call bs rs kill []))
    (he : e' = ⟨fun i => if fb ≤ i ∧ i < fb + bs.length then (bl[i - fb]?).getD 0 else e.β i, fun i => if fr ≤ i ∧ i < fr + rs.length then (vl[i - fr]?).getD undef else e.ρ i, e.M, e.D, e.l⟩) : Fits2 st' e' fb fr bs rs bl vl := by
  have hrows : ∀ i, fr ≤ i ∧ i < fr + rs.length → getK none st'.rows i = rs[i - fr]? := fun i hi => by
    rw [hst]
    cases kill with
    | nil => simp only [Eff.apply, getK_overL]; rw [if_pos hi]
    | cons n ns => simp only [Eff.apply, getK_overL]; rw [if_pos hi]
  have hboxes : ∀ i, fb ≤ i ∧ i < fb + bs.length → getK none st'.boxes i = bs[i - fb]? := fun i hi => by
    rw [hst]
    cases kill with
    | nil => simp only [Eff.apply, getK_overL]; rw [if_pos hi]
    | cons n ns => simp only [Eff.apply, getK_overL]; rw [if_pos hi]
  refine ⟨fun i b hi => ?_, fun i r hi => ?_, fun i g hi => ?_, fun i v hi => ?_⟩
  · have hlt := (List.getElem?_eq_some_iff.1 hi).1
    rw [hboxes _ (by omega), Nat.add_sub_cancel_left]; exact hi
  · have hlt := (List.getElem?_eq_some_iff.1 hi).1
    rw [hrows _ (by omega), Nat.add_sub_cancel_left]; exact hi
  · have hlt := (List.getElem?_eq_some_iff.1 hi).1
    rw [ho.lb] at hlt
    rw [he]
    simp only
    rw [if_pos (by omega), Nat.add_sub_cancel_left, hi]; rfl
  · have hlt := (List.getElem?_eq_some_iff.1 hi).1
    rw [ho.lr] at hlt
    rw [he]
    simp only
    rw [if_pos (by omega), Nat.add_sub_cancel_left, hi]; rfl

theorem nodup_inj {l : List (Option Nat)} (h : nodupB l = true) : ∀ (i j x : Nat), l[i]? = some (some x) → l[j]? = some (some x) → i = j := by
  induction l with
  | nil => intro i j x hi; simp at hi
  | cons y l ih =>
    intro i j x hi hj
    cases y with
    | none =>
      simp only [nodupB] at h
      cases i with
      | zero => simp at hi
      | succ i => cases j with
        | zero => simp at hj
        | succ j => rw [ih h i j x (by simpa using hi) (by simpa using hj)]
    | some y =>
      simp only [nodupB, Bool.and_eq_true, Bool.not_eq_true', List.contains_eq_mem, decide_eq_false_iff_not] at h
      cases i with
      | zero =>
        cases j with
        | zero => rfl
        | succ j =>
          simp at hi hj
          subst hi
          exact absurd (List.mem_of_getElem? hj) h.1
      | succ i =>
        cases j with
        | zero =>
          simp at hi hj
          subst hj
          exact absurd (List.mem_of_getElem? hi) h.1
        | succ j => rw [ih h.2 i j x (by simpa using hi) (by simpa using hj)]
theorem back_ok {w1 : World} {kill : List Nat} {fb fr : Nat} {bs : List Box} {rs : List Row} {bl : List Nat} {vl : List Value} {bi ri : List (Option Nat)} {st1 : St} {e1 : Env} {e' : Env} {st' : St} (hh : HeapOK c e st w) (hb : Back c e st w w1 kill)
    (ho : Outs e1 st1 w1 bs rs bl vl bi ri) (hown : ∀ (i : Nat) (r : Row), rs[i]? = some r → r.own = true) (hnb : nodupB bi = true) (hnr : nodupB ri = true)
    (hB1 : ∀ id g, blkB e1 st1 id = some g → w.heap.size ≤ g ∨ killBlk e st kill g) (hR1 : ∀ id g, blkR e1 st1 id = some g → w.heap.size ≤ g ∨ killBlk e st kill g)
    (hI1 : ∀ i j g, blkB e1 st1 i = some g → blkB e1 st1 j = some g → i = j) (hI2 : ∀ i j g, blkR e1 st1 i = some g → blkR e1 st1 j = some g → i = j) (hI3 : ∀ i j g, blkB e1 st1 i = some g → blkR e1 st1 j ≠ some g)
    (hfb : ∀ j, fb ≤ j → j < fb + bs.length → getK none st.boxes j = none) (hfr : ∀ j, fr ≤ j → j < fr + rs.length → getK none st.rows j = none)
    (hst : st' = Eff.apply fb fr st (.call bs rs kill []))
    (he : e' = ⟨fun i => if fb ≤ i ∧ i < fb + bs.length then (bl[i - fb]?).getD 0 else e.β i, fun i => if fr ≤ i ∧ i < fr + rs.length then (vl[i - fr]?).getD undef else e.ρ i, e.M, e.D, e.l⟩)
    (hcells : ∀ (i : Nat) (b : Box) (g : Nat) (vs : List Value), bs[i]? = some b → bl[i]? = some g → w1.heap[g]? = some (.cells vs.toArray b.T (0, 0)) → RL st' e' b.cells vs) :
    HeapOK c e' st' w1 ∧ Pres st e st' e' kill ∧ Fits2 st' e' fb fr bs rs bl vl := by
  have hrows : ∀ i, getK none st'.rows i = if fr ≤ i ∧ i < fr + rs.length then rs[i - fr]? else if i ∈ kill then none else getK none st.rows i := fun i => by
    rw [hst]
    cases kill with
    | nil => simp only [Eff.apply, setAllR, getK_overL]; simp
    | cons n ns => simp only [Eff.apply, setAllR, getK_overL, getK_killAll]
  have hboxes : ∀ i, getK none st'.boxes i = if fb ≤ i ∧ i < fb + bs.length then bs[i - fb]? else sweepBox kill (getK none st.boxes i) := fun i => by
    have hnil : ∀ b : Option Box, sweepBox [] b = b := fun b => by
      cases b with
      | none => rfl
      | some b => simp [sweepBox, mapK_sweep_nil]
    rw [hst]
    cases kill with
    | nil => simp only [Eff.apply, getK_overL, hnil]
    | cons n ns => simp only [Eff.apply, getK_overL]; rw [getK_mapK (sweepBox (n :: ns)) none none rfl]
  have hpin : st'.pin = mapK (sweep kill) st.pin := by
    rw [hst]
    cases kill with
    | nil => simp only [Eff.apply, mapK_sweep_nil]
    | cons n ns => rfl
  have hys : st'.ys = st.ys := by rw [hst]; cases kill <;> rfl
  have heM : e'.M = e.M := by rw [he]
  have heD : e'.D = e.D := by rw [he]
  have hel : e'.l = e.l := by rw [he]
  have hβn : ∀ i, fb ≤ i → i < fb + bs.length → e'.β i = (bl[i - fb]?).getD 0 := fun i h1 h2 => by rw [he]; exact if_pos ⟨h1, h2⟩
  have hβo : ∀ i, ¬ (fb ≤ i ∧ i < fb + bs.length) → e'.β i = e.β i := fun i h => by rw [he]; exact if_neg h
  have hρn : ∀ i, fr ≤ i → i < fr + rs.length → e'.ρ i = (vl[i - fr]?).getD undef := fun i h1 h2 => by rw [he]; exact if_pos ⟨h1, h2⟩
  have hρo : ∀ i, ¬ (fr ≤ i ∧ i < fr + rs.length) → e'.ρ i = e.ρ i := fun i h => by rw [he]; exact if_neg h
  have hp : Pres st e st' e' kill := by
    refine pres_of hel heD (fun i b hi => ?_) (fun i q hk hq => ?_)
    · have hne : ¬ (fb ≤ i ∧ i < fb + bs.length) := fun h => by rw [hfb i h.1 h.2] at hi; cases hi
      rw [hboxes, if_neg hne, hi]
      exact ⟨⟨_, rfl⟩, hβo i hne⟩
    · have hne : ¬ (fr ≤ i ∧ i < fr + rs.length) := fun h => by rw [hfr i h.1 h.2] at hq; cases hq
      refine ⟨⟨q, by rw [hrows, if_neg hne, if_neg hk]; exact hq, rfl, Nat.le_refl _⟩, hρo i hne⟩
  have hmine : ∀ g, (w.heap.size ≤ g ∨ killBlk e st kill g) → Mine c e'.M g := fun g hg => by rw [heM]; exact Back.mine hh hg
  have hBB : ∀ i g, blkB e' st' i = some g → (∃ j id, i = fb + j ∧ bi[j]? = some (some id) ∧ blkB e1 st1 id = some g) ∨ (¬ (fb ≤ i ∧ i < fb + bs.length) ∧ blkB e st i = some g) := by
    intro i g h
    simp only [blkB, hboxes] at h
    by_cases hi : fb ≤ i ∧ i < fb + bs.length
    · left
      rw [if_pos hi] at h
      have hb' : bs[i - fb]? = some bs[i - fb] := List.getElem?_eq_getElem (by omega)
      obtain ⟨h1, id, g', h2, h3, h4, _⟩ := ho.box _ _ hb'
      rw [hb'] at h
      simp only [h1, if_true] at h
      rw [hβn i hi.1 hi.2, h3] at h
      simp at h; subst h
      exact ⟨i - fb, id, by omega, h2, h4⟩
    · right
      rw [if_neg hi] at h
      refine ⟨hi, ?_⟩
      simp only [blkB]
      cases hq : getK none st.boxes i with
      | none => rw [hq] at h; simp [sweepBox] at h
      | some b => rw [hq] at h; simp only [sweepBox] at h; rw [hβo i hi] at h; exact h
  have hRR : ∀ i g, blkR e' st' i = some g → (∃ j id, i = fr + j ∧ ri[j]? = some (some id) ∧ blkR e1 st1 id = some g) ∨ (¬ (fr ≤ i ∧ i < fr + rs.length) ∧ i ∉ kill ∧ blkR e st i = some g) := by
    intro i g h
    simp only [blkR, hrows] at h
    by_cases hi : fr ≤ i ∧ i < fr + rs.length
    · left
      rw [if_pos hi] at h
      have hb' : rs[i - fr]? = some rs[i - fr] := List.getElem?_eq_getElem (by omega)
      have h1 := hown _ _ hb'
      obtain ⟨v, h2, h3, h4⟩ := ho.row _ _ hb' h1
      rw [hb'] at h
      simp only [h1, if_true] at h
      rw [hρn i hi.1 hi.2, h2] at h
      obtain ⟨id, h5, h6⟩ := h4 g (by simpa using h)
      exact ⟨i - fr, id, by omega, h5, h6⟩
    · right
      rw [if_neg hi] at h
      by_cases hk : i ∈ kill
      · rw [if_pos hk] at h; cases h
      · rw [if_neg hk] at h
        refine ⟨hi, hk, ?_⟩
        simp only [blkR]
        rw [hρo i hi] at h
        exact h
  have hold : ∀ i g, blkB e st i = some g → ¬ (w.heap.size ≤ g ∨ killBlk e st kill g) := by
    intro i g h h'
    rcases h' with h' | ⟨id, _, h'⟩
    · simp only [blkB] at h
      cases hq : getK none st.boxes i with
      | none => rw [hq] at h; cases h
      | some b =>
        rw [hq] at h
        have := hh.box_lt hq
        cases hbo : b.own
        · simp [hbo] at h
        · simp [hbo] at h; omega
    · exact hh.apart _ _ _ h h'
  have holdR : ∀ i g, i ∉ kill → blkR e st i = some g → ¬ (w.heap.size ≤ g ∨ killBlk e st kill g) := by
    intro i g hk h h'
    rcases h' with h' | ⟨id, hid, h'⟩
    · have := (hh.blkR_mine h).2; omega
    · exact hk (hh.injR _ _ _ h' h ▸ hid)
  have hkeep : ∀ g, g < w.heap.size → ¬ (w.heap.size ≤ g ∨ killBlk e st kill g) → w1.heap[g]? = w.heap[g]? := fun g h1 h2 => hb.block g h1 (fun h => h2 (.inr h))
  refine ⟨⟨⟨hb.os.trans hh.frame.os, hb.tape.trans hh.frame.tape, hb.output.trans hh.frame.output, Nat.le_trans hh.frame.size hb.size, fun k h1 h2 => ?_⟩, fun i b hi => ?_, fun i q hq => ?_, ?_, ?_, ?_, ?_, fun D hD => ?_, fun D hD => ?_, fun k hk => hh.mwr k (by rw [← heM]; exact hk), by rw [hel]; exact hh.yl, by rw [heD]; exact hh.nd, ?_⟩, hp, ?_⟩
  · rw [hb.block k (by have := hh.base_le; omega) (fun ⟨id, _, h⟩ => fixed_ne ⟨h1, h2, (hh.blkR_mine h).1.2⟩ (hh.blkR_mine h).1)]
    exact hh.frame.block k h1 h2
  · rw [hboxes] at hi
    by_cases hin : fb ≤ i ∧ i < fb + bs.length
    · rw [if_pos hin] at hi
      obtain ⟨h1, id, g, h2, h3, h4, vs, h5, h6⟩ := ho.box _ _ hi
      have hβ : e'.β i = g := by rw [hβn i hin.1 hin.2, h3]; rfl
      refine ⟨⟨vs, by rw [hβ]; exact h5, hcells _ _ _ _ hi h3 h5, h6⟩, ?_⟩
      rw [h1, hβ]
      exact hmine g (hB1 _ _ h4)
    · rw [if_neg hin] at hi
      cases hq : getK none st.boxes i with
      | none => rw [hq] at hi; simp [sweepBox] at hi
      | some b0 =>
        rw [hq] at hi
        simp only [sweepBox, Option.some.injEq] at hi
        subst hi
        obtain ⟨⟨vs, h3, h4, h5⟩, h6⟩ := hh.box i b0 hq
        unfold BoxOK
        rw [hβo i hin]
        refine ⟨⟨vs, ?_, RL_mono hp.keep h4, h5⟩, ?_⟩
        · rw [← h3]
          refine hkeep _ (hh.box_lt hq) ?_
          cases hbo : b0.own
          · rw [hbo] at h6
            intro h'
            exact fixed_ne h6 (Back.mine hh h')
          · exact hold i _ (by simp [blkB, hq, hbo])
        · rw [heM]; exact h6
  · rw [hrows] at hq
    by_cases hin : fr ≤ i ∧ i < fr + rs.length
    · rw [if_pos hin] at hq
      have h1 := hown _ _ hq
      obtain ⟨v, h2, h3, h4⟩ := ho.row _ _ hq h1
      have hρ : e'.ρ i = v := by rw [hρn i hin.1 hin.2, h2]; rfl
      refine ⟨size_pos _, ?_⟩
      rw [h1, hρ]
      refine ⟨h3, fun g hg => ?_⟩
      obtain ⟨id, _, h6⟩ := h4 g hg
      exact hmine g (hR1 _ _ h6)
    · rw [if_neg hin] at hq
      by_cases hk : i ∈ kill
      · rw [if_pos hk] at hq; cases hq
      · rw [if_neg hk] at hq
        obtain ⟨h3, h4⟩ := hh.row i q hq
        refine ⟨h3, ?_⟩
        rw [hρo i hin]
        cases hro : q.own
        · rw [hro] at h4; rw [heM]; exact h4
        · rw [hro] at h4
          rw [heM]
          exact ⟨h4.1.same (fun g hg hlt => hkeep g hlt (holdR i g hk (by simp [blkR, hq, hro, hg]))), h4.2⟩
  · intro i j g h1 h2
    rcases hBB i g h1 with ⟨a, id, rfl, h3, h4⟩ | ⟨h3, h4⟩ <;> rcases hBB j g h2 with ⟨b, id', rfl, h5, h6⟩ | ⟨h5, h6⟩
    · obtain rfl := hI1 _ _ _ h4 h6
      rw [nodup_inj hnb _ _ _ h3 h5]
    · exact absurd (hB1 _ _ h4) (hold _ _ h6)
    · exact absurd (hB1 _ _ h6) (hold _ _ h4)
    · exact hh.injB _ _ _ h4 h6
  · intro i j g h1 h2
    rcases hRR i g h1 with ⟨a, id, rfl, h3, h4⟩ | ⟨h3, hk, h4⟩ <;> rcases hRR j g h2 with ⟨b, id', rfl, h5, h6⟩ | ⟨h5, hk', h6⟩
    · obtain rfl := hI2 _ _ _ h4 h6
      rw [nodup_inj hnr _ _ _ h3 h5]
    · exact absurd (hR1 _ _ h4) (holdR _ _ hk' h6)
    · exact absurd (hR1 _ _ h6) (holdR _ _ hk h4)
    · exact hh.injR _ _ _ h4 h6
  · intro i j g h1 h2
    rcases hBB i g h1 with ⟨a, id, rfl, h3, h4⟩ | ⟨h3, h4⟩ <;> rcases hRR j g h2 with ⟨b, id', rfl, h5, h6⟩ | ⟨h5, hk', h6⟩
    · exact hI3 _ _ _ h4 h6
    · exact absurd (hB1 _ _ h4) (holdR _ _ hk' h6)
    · exact absurd (hR1 _ _ h6) (hold _ _ h4)
    · exact hh.apart _ _ _ h4 h6
  · rw [hys, heM]
    exact c.Jst _ _ _ _ hh.out hb.os hb.tape hb.output hb.size fun k hk => hb.block k (hh.m_lt hk) (fun ⟨id, _, h⟩ => (hh.blkR_mine h).1.2 hk)
  · rw [heD] at hD
    rw [hb.block D (lt_of_heap (hh.defd D hD)) (fun ⟨id, _, h⟩ => by obtain ⟨cs, T, fz, h1⟩ := hh.blkR_cells h; rw [hh.defd D hD] at h1; cases h1)]
    exact hh.defd D hD
  · rw [heD] at hD; rw [heM]; exact hh.defm D hD
  · rw [hpin]; exact RL_mono hp.keep hh.pin
  · refine ⟨fun i b hi => ?_, fun i r hi => ?_, fun i g hi => ?_, fun i v hi => ?_⟩
    · have hlt := (List.getElem?_eq_some_iff.1 hi).1
      rw [hboxes, if_pos (by omega), Nat.add_sub_cancel_left]; exact hi
    · have hlt := (List.getElem?_eq_some_iff.1 hi).1
      rw [hrows, if_pos (by omega), Nat.add_sub_cancel_left]; exact hi
    · have hlt := (List.getElem?_eq_some_iff.1 hi).1
      rw [ho.lb] at hlt
      rw [hβn _ (by omega) (by omega), Nat.add_sub_cancel_left, hi]; rfl
    · have hlt := (List.getElem?_eq_some_iff.1 hi).1
      rw [ho.lr] at hlt
      rw [hρn _ (by omega) (by omega), Nat.add_sub_cancel_left, hi]; rfl
end

def resF (tmps : Array Value) : ResultVar → Sem Value
  | .tmp t => pure (tmps.getD t undef)
  | .cell a t => do loadVar t (← asAddr (tmps.getD a undef))
theorem results_eq (fn : Func) (tmps : Array Value) : results fn tmps = (do let vs ← fn.results.mapM (resF tmps); pure (if h : vs.size = 1 then vs[0] else .tuple vs)) := rfl

section
variable {P : Program} {G : Nat → World → Prop} {TT : TypeId → Option TD} {C : Nat → Option Con} {Y : List (List AV) → List AV → Option (Prop × Bool)}

theorem R_D {st : St} {e : Env} {Ds : List Nat} (v : AV) (x : Value) (h : R st e v x) : R st ⟨e.β, e.ρ, e.M, Ds, e.l⟩ v x :=
  keep_R (st := st) (e := e) (st' := st) (e' := ⟨e.β, e.ρ, e.M, Ds, e.l⟩) (ids := []) rfl (fun i b hi => ⟨⟨b, hi⟩, rfl⟩) (fun i q _ hq => ⟨⟨q, hq, rfl, Nat.le_refl _⟩, rfl⟩) v x (hits_nil v) h
theorem RL_D {st : St} {e : Env} {Ds : List Nat} {l : List AV} {vs : List Value} (h : RL st e l vs) : RL st ⟨e.β, e.ρ, e.M, Ds, e.l⟩ l vs := by
  induction l generalizing vs with
  | nil => exact h
  | cons x l ih => obtain ⟨v, vs', h1, h2, h3⟩ := h; exact ⟨v, vs', h1, R_D _ _ h2, ih h3⟩

theorem HeapOK.taken {c : Ctx} {st : St} {e : Env} {w w' : World} {d : Nat} {Ds : List Nat} (hh : HeapOK c e st w) (hD : e.D = d :: Ds) (ht : Turns w w' d) : HeapOK c ⟨e.β, e.ρ, e.M, Ds, e.l⟩ st w' := by
  have hd := hh.defd d (by rw [hD]; simp)
  have hm := hh.defm d (by rw [hD]; simp)
  have hnd := hh.nd
  rw [hD] at hnd
  have hne : ∀ g cs T fz, w.heap[g]? = some (.cells cs T fz) → g ≠ d := fun g cs T fz h heq => by rw [heq, hd] at h; cases h
  have hmine : Mine c e.M d := ⟨.inl hm.2, hm.1⟩
  refine ⟨ht.frame hmine hh.frame, fun i b hi => ?_, fun i q hq => ?_, hh.injB, hh.injR, hh.apart, show c.J st.ys e.M w' from ht.out hmine hh, fun D' hD' => ?_, fun D' hD' => hh.defm D' (by rw [hD]; simp [show D' ∈ Ds from hD']), hh.mwr, hh.yl, (List.nodup_cons.1 hnd).2, RL_D hh.pin⟩
  · obtain ⟨⟨vs, h1, h2, h3⟩, h4⟩ := hh.box i b hi
    exact ⟨⟨vs, (ht.block _ (hh.box_lt hi) (hne _ _ _ _ h1)).trans h1, RL_D h2, h3⟩, h4⟩
  · obtain ⟨h3, h4⟩ := hh.row i q hq
    refine ⟨h3, ?_⟩
    cases hro : q.own
    · rw [hro] at h4; exact h4
    · rw [hro] at h4
      exact ⟨h4.1.same (fun g hg hlt => ht.block g hlt (by obtain ⟨_, cs, T, fz, h5⟩ := h4.1.lt hg; exact hne _ _ _ _ h5)), h4.2⟩
  · have h1 := hh.defd D' (by rw [hD]; simp [show D' ∈ Ds from hD'])
    rw [ht.block D' (lt_of_heap h1) (fun h => (List.nodup_cons.1 hnd).1 (h ▸ hD'))]
    exact h1

theorem putObj_turns {w : World} {g : Nat} (o : Obj) : Turns w (w.putObj g o) g := ⟨rfl, rfl, rfl, by simp, fun _ _ h => World.putObj_heap_other h⟩

theorem leaves_ok {c : Ctx} {st : St} {fn : Func} {tmps : Array Value} {R' : Ending → World → Prop} {n : Nat} {D0 : List Nat} : ∀ (Ds : List Nat) (e : Env) (w : World), HeapOK c e st w → e.D = Ds ++ D0 →
    (∀ w', HeapOK c ⟨e.β, e.ρ, e.M, D0, e.l⟩ st w' → ∃ v, (results fn tmps).run P w' = .ok v w' ∧ R' (.returned v) w') → LeavesInM (W none) n P fn tmps R' (marks Ds) .returning w := by
  intro Ds
  induction Ds with
  | nil =>
    intro e w hh hD h
    refine h w ?_
    have : e = ⟨e.β, e.ρ, e.M, D0, e.l⟩ := by cases e; simp at hD; subst hD; rfl
    rwa [← this]
  | cons d Ds ih =>
    intro e w hh hD h
    refine ⟨by simp, .inl ⟨d, _, rfl, run_takeDeferred (hh.defd d (by rw [hD]; simp)), ?_⟩⟩
    exact ih _ _ (hh.taken hD (putObj_turns _)) rfl h

theorem result_run {c : Ctx} {st : St} {e : Env} {a : Act} {w : World} (hTT : TTOK P TT) (hh : HeapOK c e st w) (ht : RL st e st.tmps a.tmps.toList) (r : ResultVar) (rv : RV) (h : resultOf TT st r = some rv) :
    ∃ v u, resolve st v = some rv ∧ R st e v u ∧ (resF a.tmps r).run P w = .ok u w := by
  have hget : ∀ t, R st e (getK .any st.tmps t) (a.tmps.getD t undef) := fun t => by
    have := RL_get ht t
    simpa [Array.getD_eq_getD_getElem?] using this
  cases r with
  | tmp t => exact ⟨_, _, h, hget t, rfl⟩
  | cell t T =>
    simp only [resultOf] at h
    split at h
    · rename_i id d hb hd
      split at h
      · rename_i bx hbx
        split at h
        · rename_i hc
          have hR := hget t
          rw [hb] at hR
          obtain ⟨_, hv⟩ := hR
          obtain ⟨⟨vs, h1, h2, h3⟩, _⟩ := hh.box id bx hbx
          have hlen := RL_length h2
          have := (run_loadVar (P := P) (w := w) (hTT _ _ hd) (p := ⟨e.β id, 0, none⟩) (vs := vs) (fun j hj => by
            rw [Addr.add_lit, cell_of_row w _ _ _ _ _ h1]; simp) (by omega)).1 hc.1
          refine ⟨.agg bx.cells, .agg vs.toArray, h, ⟨vs, rfl, h2⟩, ?_⟩
          simp only [resF, hv, asAddr]
          simp [this]
        · split at h
          · rename_i hc
            have hR := hget t
            rw [hb] at hR
            obtain ⟨_, hv⟩ := hR
            obtain ⟨⟨vs, h1, h2, h3⟩, _⟩ := hh.box id bx hbx
            have hlen := RL_length h2
            obtain ⟨x, hx⟩ : ∃ x, bx.cells = [x] := by
              match hcl : bx.cells, hc.2.2 with
              | [x], _ => exact ⟨x, rfl⟩
            rw [hx] at h2 h hlen
            obtain ⟨u, us, rfl, h4, h5⟩ := h2
            simp only [RL] at h5
            subst h5
            have := (run_loadVar (P := P) (w := w) (hTT _ _ hd) (p := ⟨e.β id, 0, none⟩) (vs := [u]) (fun j hj => by
              rw [Addr.add_lit, cell_of_row w _ _ _ _ _ h1]; simp) (by simp; omega)).2 hc.1 u rfl (by omega)
            refine ⟨x, u, h, h4, ?_⟩
            simp only [resF, hv, asAddr]
            simp [this]
          · cases h
      · cases h
    · cases h

theorem results_run {c : Ctx} {st : St} {e : Env} {a : Act} {w : World} (hTT : TTOK P TT) (hh : HeapOK c e st w) (ht : RL st e st.tmps a.tmps.toList) : ∀ (l : List ResultVar) (rvs : List RV), resultsOf TT st l = some rvs →
    ∃ vs us, resolvesTo st vs rvs ∧ RL st e vs us ∧ (l.mapM (resF a.tmps)).run P w = .ok us w := by
  intro l
  induction l with
  | nil => intro rvs h; simp only [resultsOf, Option.some.injEq] at h; subst h; exact ⟨[], [], trivial, rfl, rfl⟩
  | cons r l ih =>
    intro rvs h
    simp only [resultsOf] at h
    split at h
    · rename_i rv hrv
      split at h
      · rename_i rvs' hrvs
        cases h
        obtain ⟨v, u, h1, h2, h3⟩ := result_run hTT hh ht r rv hrv
        obtain ⟨vs, us, h4, h5, h6⟩ := ih rvs' hrvs
        refine ⟨v :: vs, u :: us, ⟨h1, h4⟩, ⟨u, us, rfl, h2, h5⟩, ?_⟩
        rw [List.mapM_cons, Sem.run_bind, h3]
        simp only [Result.andThen_ok, Sem.run_bind]
        rw [h6]
        rfl
      · cases h
    · cases h

theorem RL_fillAny {st : St} {e : Env} : ∀ (n : Nat) (l : List AV) (vs : List Value), RL st e l vs → RL st e (fillAny n l) (vs ++ List.replicate (n - vs.length) undef) := by
  intro n
  induction n with
  | zero => intro l vs h; simpa [fillAny] using h
  | succ n ih =>
    intro l vs h
    cases l with
    | nil =>
      simp only [RL] at h
      subst h
      have := ih [] [] rfl
      simp only [List.length_nil, Nat.sub_zero, List.nil_append] at this ⊢
      rw [List.replicate_succ]
      exact ⟨undef, _, rfl, trivial, this⟩
    | cons x l =>
      obtain ⟨v, vs', rfl, h1, h2⟩ := h
      have := ih l vs' h2
      refine ⟨v, vs' ++ List.replicate (n - vs'.length) undef, by simp [Nat.succ_sub_succ], h1, this⟩

theorem allRes_resolves {st : St} : ∀ (l : List AV) (m : List RV), allRes (resolve st) l = some m → resolvesTo st l m := by
  intro l
  induction l with
  | nil => intro m h; simp only [allRes, Option.some.injEq] at h; subst h; trivial
  | cons x l ih =>
    intro m h
    simp only [allRes] at h
    split at h
    · rename_i r hr
      split at h
      · rename_i m' hm; cases h; exact ⟨hr, ih _ hm⟩
      · cases h
    · cases h

def noY : List (List AV) → List AV → Option (Prop × Bool) := fun _ _ => none

theorem yok_no {ci : Ctx} : YOK P ci noY := fun ys args M w p b _ _ _ h => by simp [noY] at h
theorem con_of_bodyT {f : FuncId} {fn : Func} {code : Code} {con : Con} (sh : List (Option (TypeId × EK))) (hf : P.funcs[f]? = some fn) (hb : fn.body = some code) (hname : (fn.name == "runtime.NumGoroutine") = false)
    (hTT : TTOK P TT) (hG : ∀ (c : Ctx), G c.g0 c.w0 → ∀ w, Frame c w → G c.g0 w)
    (h : ∀ rvs cr, con rvs = some cr → (∀ p ∈ cr.pre, p) → (cr.res.own = true ∧ cr.setr = [] ∧ occOk cr.kill (normL sh rvs) = true) ∧
      ∀ c : Ctx, c.r = none → (∀ w, Frame c w → G c.g0 w) → Tr P c code ⟨fillAny fn.ntmps (impL cr.kill 0 0 (normL sh rvs)).1, (impL cr.kill 0 0 (normL sh rvs)).2.1, (impL cr.kill 0 0 (normL sh rvs)).2.2, [], []⟩ (endOf TT fn (postOf cr.res))) : ConOK P G f con := by
  intro c e st w avs rvs cr vals fb fr hGw hh hres hargs hcr hpre hfb hfr
  refine ⟨⟨fn, hf, by rw [hb]; rfl, hname⟩, ?_⟩
  obtain ⟨⟨hown, hsetr, hocc⟩, hvc⟩ := h rvs cr hcr hpre
  have hocc' := occOk_spec hocc
  obtain ⟨bl, vl, hhand, hRL⟩ := impA_spec hh avs sh 0 0 rvs vals (allRes_resolves _ _ hres) hargs (kill := cr.kill) (fun id hid hk => (hocc' id hk).2 hid)
  generalize himp : impL cr.kill 0 0 (normL sh rvs) = im at hvc hhand hRL
  obtain ⟨avs', bs, rs⟩ := im
  simp only at hvc hhand hRL
  generalize hci : inner c e st w cr.kill hh = ci
  let e0 : Env := ⟨fun i => (bl[i]?).getD 0, fun i => (vl[i]?).getD undef, fun _ => False, [], 0⟩
  let st0 : St := ⟨fillAny fn.ntmps avs', bs, rs, [], []⟩
  have hfits : Fits st0 e0 0 0 bs rs bl vl := by
    refine ⟨fun i b hi => ?_, fun i r hi => ?_, fun i g hi => ?_, fun i v hi => ?_⟩
    · show getK none bs (0 + i) = some b
      rw [Nat.zero_add, getK_eq, hi]; rfl
    · show getK none rs (0 + i) = some r
      rw [Nat.zero_add, getK_eq, hi]; rfl
    · show (bl[0 + i]?).getD 0 = g
      rw [Nat.zero_add, hi]; rfl
    · show (vl[0 + i]?).getD undef = v
      rw [Nat.zero_add, hi]; rfl
  obtain ⟨hR0, hcells0⟩ := hRL st0 e0 hfits
  have hh0 : HeapOK ci e0 st0 w := by
    rw [← hci]
    exact inner_ok hh hhand (fun id hid => (hocc' id hid).1) rfl hcells0
  have hcr0 : ci.r = none := by rw [← hci]; rfl
  have hgood : ∀ w', Frame ci w' → G ci.g0 w' := by
    refine hG ci ?_
    rw [← hci]; exact hGw
  have hY : YOK P ci noY := yok_no
  have htr := hvc ci hcr0 hgood
  refine callsW.1 (callsIn_of_wp_marks (F := W none) (n := 0) hf hb trivial ?_ rfl)
  have ht0 : TmpsOK ci st0 e0 { tmps := vals.toArray ++ Array.replicate (fn.ntmps - vals.toArray.size) undef, defers := [] } := by
    refine ⟨?_, [], by rw [← hci]; rfl, rfl⟩
    have := RL_fillAny fn.ntmps avs' vals hR0
    simpa using this
  have htr0 := htr e0 _ w hh0 ht0
  rw [hcr0] at htr0
  refine wpIn_mono htr0 ?_
  have hend : ∀ a1 w1, (∃ st1 e1, HeapOK ci e1 st1 w1 ∧ TmpsOK ci st1 e1 a1 ∧ (match resultsOf TT st1 fn.results.toList with | some vs => Done (postOf cr.res vs) | none => False)) →
      LeavesInM (W none) 0 P fn a1.tmps (fun en w' => ∃ v e', en = .returned v ∧ HeapOK c e' ((cr.eff fb fr).apply fb fr st) w' ∧ Pres st e ((cr.eff fb fr).apply fb fr st) e' cr.kill ∧ R ((cr.eff fb fr).apply fb fr st) e' (cr.res.inst fb fr).1 v) a1.defers .returning w1 := by
    rintro a1 w1 ⟨st1, e1, hh1, ht1, hpost⟩
    obtain ⟨htR, own, hD, hdf⟩ := ht1
    rw [hdf]
    refine leaves_ok own e1 w1 hh1 hD (fun w2 hh2 => ?_)
    split at hpost
    · rename_i rvs1 hrv
      obtain ⟨hpost⟩ := hpost
      have ht2 : RL st1 ⟨e1.β, e1.ρ, e1.M, ci.D0, e1.l⟩ st1.tmps a1.tmps.toList := RL_D htR
      generalize (⟨e1.β, e1.ρ, e1.M, ci.D0, e1.l⟩ : Env) = e2 at hh2 ht2
      obtain ⟨vs, us, h1, h2, h3⟩ := results_run hTT hh2 ht2 _ _ hrv
      have hrun : (results fn a1.tmps).run P w2 = .ok (if h : us.toArray.size = 1 then us.toArray[0] else .tuple us.toArray) w2 := by
        rw [results_eq, Sem.run_bind, Array.mapM_eq_mapM_toList, Sem.run_map, h3]
        rfl
      refine ⟨_, hrun, ?_⟩
      have hfin : ∀ (v : AV) (y : RV) (u : Value) (n : Nat), resolveF st1.boxes st1.rows n v = some y → R st1 e2 v u → chk cr.res y → (nodupB (idsOf cr.res y) && nodupB (bidsOf cr.res y)) = true →
          ∃ v' e', Ending.returned u = .returned v' ∧ HeapOK c e' ((cr.eff fb fr).apply fb fr st) w2 ∧ Pres st e ((cr.eff fb fr).apply fb fr st) e' cr.kill ∧ R ((cr.eff fb fr).apply fb fr st) e' (cr.res.inst fb fr).1 v' := by
        intro v y u n hres1 hR1 hc hnd
        simp only [Bool.and_eq_true] at hnd
        obtain ⟨bl2, vl2, ho, hout⟩ := out_spec hh2 fb fr n cr.res v y u hres1 hR1 hc
        have hM2 : ∀ k, ¬ e2.M k := by have := hh2.out; rw [← hci] at this; exact this
        have hback : Back c e st w w2 cr.kill := by
          have hfr2 := hh2.frame
          rw [← hci] at hfr2
          exact ⟨hfr2.os, hfr2.tape, hfr2.output, hfr2.size, fun k h1 h2 => hfr2.block k h1 h2⟩
        have hmineI : ∀ g, Mine ci e2.M g → w.heap.size ≤ g ∨ killBlk e st cr.kill g := fun g hg => by
          rw [← hci] at hg
          exact hg.1
        obtain ⟨h4, h5, h6⟩ := back_ok (st1 := st1) (e1 := e2) hh hback ho (inst_own cr.res fb fr hown) hnd.2 hnd.1
          (fun id g hg => hmineI g (hh2.blkB_mine hg)) (fun id g hg => hmineI g (hh2.blkR_mine hg).1) hh2.injB hh2.injR hh2.apart hfb hfr
          (st' := (cr.eff fb fr).apply fb fr st) (by unfold CR.eff; rw [hsetr]) rfl (by
            intro i b g vs hi hg hw
            exact (hout _ _ (back_fits ho (st := st) (e := e) (kill := cr.kill) (by unfold CR.eff; rw [hsetr]) rfl)).2 i b g vs hi hg hw)
        exact ⟨u, _, rfl, h4, h5, (hout _ _ h6).1⟩
      cases hvs : vs with
      | nil =>
        subst hvs
        cases rvs1 with
        | nil =>
          simp only [RL] at h2
          subst h2
          simp only [postOf] at hpost
          split at hpost
          · rename_i l hl
            refine hfin (.tup []) (.tup []) _ 2 rfl ⟨[], by simp, rfl⟩ ?_ ?_
            · rw [hl]; exact hpost.1
            · rw [hl]; exact hpost.2
          · exact hpost.elim
        | cons _ _ => exact h1.elim
      | cons v vs' =>
        subst hvs
        cases rvs1 with
        | nil => exact h1.elim
        | cons y ys =>
        obtain ⟨u, us', rfl, h4, h5⟩ := h2
        cases vs' with
        | nil =>
          cases ys with
          | cons _ _ => exact h1.2.elim
          | nil =>
          simp only [RL] at h5
          subst h5
          simp only [postOf] at hpost
          simpa using hfin v y u 200 h1.1 h4 hpost.1 hpost.2
        | cons v2 vs2 =>
          cases ys with
          | nil => exact h1.2.elim
          | cons y2 ys2 =>
          obtain ⟨u2, us2, rfl, h6, h7⟩ := h5
          have hne : ¬ ((u :: u2 :: us2).toArray.size = 1) := by simp
          rw [dif_neg hne]
          simp only [postOf] at hpost
          split at hpost
          · rename_i l hl
            have hn := resolves_fuel h1
            refine hfin (.tup (v :: v2 :: vs2)) (.tup (y :: y2 :: ys2)) _ (201 + (v :: v2 :: vs2).length + 1) (by simp only [resolveF]; rw [hn]) ⟨_, rfl, u, _, rfl, h4, u2, _, rfl, h6, h7⟩ ?_ ?_
            · rw [hl]; exact hpost.1
            · rw [hl]; exact hpost.2
          · exact hpost.elim
    · exact hpost.elim
  intro ex a1 w1 hq
  cases ex with
  | normal => obtain ⟨st1, e1, h1, h2, h3⟩ := hq; exact hend a1 w1 ⟨st1, e1, h1, h2, h3⟩
  | ret => obtain ⟨st1, e1, h1, h2, h3⟩ := hq; exact hend a1 w1 ⟨st1, e1, h1, h2, h3⟩
  | exit id => obtain ⟨st1, e1, h1, h2, h3⟩ := hq; exact h3.elim
  | goto l => obtain ⟨st1, e1, h1, h2, h3⟩ := hq; exact h3.elim
  | panic ch => exact hq.elim
  | outgrown => exact hq.elim
theorem con_of_body {f : FuncId} {fn : Func} {code : Code} {con : Con} (sh : List (Option (TypeId × EK))) (hf : P.funcs[f]? = some fn) (hb : fn.body = some code) (hname : (fn.name == "runtime.NumGoroutine") = false) (hd : drawsOk C code = true)
    (hTT : TTOK P TT) (hC : ∀ f con, C f = some con → ConOK P G f con) (hdraw : ∀ c, (∀ w, Frame c w → G c.g0 w) → YOK P c noY → DrawOK P TT C noY c) (hG : ∀ (c : Ctx), G c.g0 c.w0 → ∀ w, Frame c w → G c.g0 w)
    (h : ∀ rvs cr, con rvs = some cr → (∀ p ∈ cr.pre, p) → (cr.res.own = true ∧ cr.setr = [] ∧ occOk cr.kill (normL sh rvs) = true) ∧
      ∀ c : Ctx, c.r = none → (∀ w, Frame c w → G c.g0 w) → vc P TT C noY c code ⟨fillAny fn.ntmps (impL cr.kill 0 0 (normL sh rvs)).1, (impL cr.kill 0 0 (normL sh rvs)).2.1, (impL cr.kill 0 0 (normL sh rvs)).2.2, [], []⟩ (endOf TT fn (postOf cr.res))) : ConOK P G f con := by
  refine con_of_bodyT sh hf hb hname hTT hG (fun rvs cr h1 h2 => ⟨(h rvs cr h1 h2).1, fun c hc hgood => ?_⟩)
  exact vc_sound hTT hC hgood yok_no (hdraw c hgood yok_no) code _ _ hd ((h rvs cr h1 h2).2 c hc hgood)

end
end Go.X

namespace Go.X
open Go.RowKit
structure Kin (c c' : Ctx) : Prop where
  base : c'.base = c.base
  wr : c'.wr = c.wr
  w0 : c'.w0 = c.w0
  g0 : c'.g0 = c.g0
theorem Kin.frame {c c' : Ctx} (h : Kin c c') {w : World} (hf : Frame c' w) : Frame c w :=
  ⟨by rw [← h.w0]; exact hf.os, by rw [← h.w0]; exact hf.tape, by rw [← h.w0]; exact hf.output, by rw [← h.w0]; exact hf.size, fun k h1 h2 => by
    rw [← h.w0]; exact hf.block k (by rw [h.base]; exact h1) (by rw [h.wr]; exact h2)⟩
theorem Kin.trans {c c' c'' : Ctx} (h : Kin c c') (h' : Kin c' c'') : Kin c c'' := ⟨h'.base.trans h.base, h'.wr.trans h.wr, h'.w0.trans h.w0, h'.g0.trans h.g0⟩
theorem Kin.good {G : Nat → World → Prop} {c c' : Ctx} (h : Kin c c') (hg : ∀ w, Frame c w → G c.g0 w) : ∀ w, Frame c' w → G c'.g0 w := fun w hf => by rw [h.g0]; exact hg w (h.frame hf)

def resV (TT : TypeId → Option TD) (st : St) : ResultVar → Option AV
  | .tmp t => some (getK .any st.tmps t)
  | .cell t T => match getK .any st.tmps t, TT T with
    | .box id 0, some d => match getK none st.boxes id with
      | some bx => if d.k.isAgg = true ∧ d.size = bx.cells.length then some (.agg bx.cells) else none
      | none => none
    | _, _ => none
def resVs (TT : TypeId → Option TD) (st : St) : List ResultVar → Option (List AV)
  | [] => some []
  | r :: l => match resV TT st r with
    | some v => match resVs TT st l with | some vs => some (v :: vs) | none => none
    | none => none
def oneOf : List AV → AV
  | [v] => v
  | l => .tup l
def inlSt (n : Nat) (st : St) (avs : List AV) : St := ⟨fillAny n avs, st.boxes, st.rows, st.ys, appendList st.tmps st.pin⟩
def wrapO : Bool → AV → AV
  | true, v => .opt true v
  | false, v => v
def backSt (n : Nat) (dst : Option Tmp) (v : AV) (st : St) : St := match dst with
  | some d => ⟨setAt (takeK n st.pin) d v, st.boxes, st.rows, st.ys, dropK n st.pin⟩
  | none => ⟨takeK n st.pin, st.boxes, st.rows, st.ys, dropK n st.pin⟩
where setAt : List AV → Nat → AV → List AV
  | [], _, _ => []
  | _ :: l, 0, v => v :: l
  | x :: l, n + 1, v => x :: setAt l n v
def inlEnd (TT : TypeId → Option TD) (fn : Func) (n : Nat) (wr : Bool) (dst : Option Tmp) (k : St → Prop) : Exit → St → Prop
  | .normal, st | .ret, st => match resVs TT st fn.results.toList with
    | some vs => k (backSt n dst (wrapO wr (oneOf vs)) st)
    | none => False
  | _, _ => False

theorem setAt_eq (l : List AV) (n : Nat) (v : AV) : backSt.setAt l n v = l.set n v := by
  induction l generalizing n with
  | nil => rfl
  | cons x l ih => cases n with
    | zero => rfl
    | succ n => simp [backSt.setAt, ih]

section
variable {P : Program} {G : Nat → World → Prop} {TT : TypeId → Option TD} {c : Ctx}

theorem resV_run {st : St} {e : Env} {a : Act} {w : World} (hTT : TTOK P TT) (hh : HeapOK c e st w) (ht : RL st e st.tmps a.tmps.toList) (r : ResultVar) (v : AV) (h : resV TT st r = some v) :
    ∃ u, R st e v u ∧ (resF a.tmps r).run P w = .ok u w := by
  have hget : ∀ t, R st e (getK .any st.tmps t) (a.tmps.getD t undef) := fun t => by
    have := RL_get ht t
    simpa [Array.getD_eq_getD_getElem?] using this
  cases r with
  | tmp t => simp only [resV, Option.some.injEq] at h; subst h; exact ⟨_, hget t, rfl⟩
  | cell t T =>
    simp only [resV] at h
    split at h
    · rename_i id d hb hd
      split at h
      · rename_i bx hbx
        split at h
        · rename_i hc
          cases h
          have hR := hget t
          rw [hb] at hR
          obtain ⟨_, hv⟩ := hR
          obtain ⟨⟨vs, h1, h2, h3⟩, _⟩ := hh.box id bx hbx
          have hlen := RL_length h2
          have := (run_loadVar (P := P) (w := w) (hTT _ _ hd) (p := ⟨e.β id, 0, none⟩) (vs := vs) (fun j hj => by
            rw [Addr.add_lit, cell_of_row w _ _ _ _ _ h1]; simp) (by omega)).1 hc.1
          refine ⟨.agg vs.toArray, ⟨vs, rfl, h2⟩, ?_⟩
          simp only [resF, hv, asAddr]
          simp [this]
        · cases h
      · cases h
    · cases h

theorem resVs_run {st : St} {e : Env} {a : Act} {w : World} (hTT : TTOK P TT) (hh : HeapOK c e st w) (ht : RL st e st.tmps a.tmps.toList) : ∀ (l : List ResultVar) (vs : List AV), resVs TT st l = some vs →
    ∃ us, RL st e vs us ∧ (l.mapM (resF a.tmps)).run P w = .ok us w := by
  intro l
  induction l with
  | nil => intro vs h; simp only [resVs, Option.some.injEq] at h; subst h; exact ⟨[], rfl, rfl⟩
  | cons r l ih =>
    intro vs h
    simp only [resVs] at h
    split at h
    · rename_i v hv
      split at h
      · rename_i vs' hvs
        cases h
        obtain ⟨u, h2, h3⟩ := resV_run hTT hh ht r v hv
        obtain ⟨us, h5, h6⟩ := ih vs' hvs
        refine ⟨u :: us, ⟨u, us, rfl, h2, h5⟩, ?_⟩
        rw [List.mapM_cons, Sem.run_bind, h3]
        simp only [Result.andThen_ok, Sem.run_bind]
        rw [h6]
        rfl
      · cases h
    · cases h

theorem wrapO_R {st : St} {e : Env} {v : AV} {x : Value} (wr : Bool) (h : R st e v x) : R st e (wrapO wr v) x := by
  cases wr
  · exact h
  · exact ⟨fun _ => h, fun h => by cases h⟩

theorem RL_split {st : St} {e : Env} : ∀ (n : Nat) (l : List AV) (xs ys : List Value), xs.length = n → RL st e l (xs ++ ys) → RL st e (takeK n l) xs ∧ RL st e (dropK n l) ys := by
  intro n
  induction n with
  | zero => intro l xs ys hn h; cases xs with
    | nil => cases l <;> exact ⟨rfl, h⟩
    | cons _ _ => simp at hn
  | succ n ih =>
    intro l xs ys hn h
    cases xs with
    | nil => simp at hn
    | cons x xs =>
      cases l with
      | nil => simp [RL] at h
      | cons y l =>
        obtain ⟨v, vs', h1, h2, h3⟩ := h
        simp only [List.cons_append, List.cons.injEq] at h1
        obtain ⟨rfl, rfl⟩ := h1
        obtain ⟨h4, h5⟩ := ih l xs ys (by simpa using hn) h3
        exact ⟨⟨x, xs, rfl, h2, h4⟩, h5⟩
theorem HeapOK.kin {c' : Ctx} {st st' : St} {e e' : Env} {w : World} (hk : Kin c c') (hb : st'.boxes = st.boxes) (hr : st'.rows = st.rows) (he : e'.β = e.β ∧ e'.ρ = e.ρ ∧ e'.M = e.M ∧ e'.l = e.l) (hl : c'.l = c.l)
    (hD : e'.D = e.D) (hJ : c'.J st'.ys e.M w) (hp : RL st' e' st'.pin c'.pv) (hh : HeapOK c e st w) : HeapOK c' e' st' w := by
  obtain ⟨β, ρ, M, D, l⟩ := e
  obtain ⟨β', ρ', M', D', l'⟩ := e'
  simp only at he hD
  obtain ⟨rfl, rfl, rfl, rfl⟩ := he
  subst hD
  obtain ⟨ts, bs, rs, ys, pn⟩ := st
  obtain ⟨ts', bs', rs', ys', pn'⟩ := st'
  simp only at hb hr
  subst hb; subst hr
  have hf : Frame c' w := ⟨by rw [hk.w0]; exact hh.frame.os, by rw [hk.w0]; exact hh.frame.tape, by rw [hk.w0]; exact hh.frame.output, by rw [hk.w0]; exact hh.frame.size, fun k h1 h2 => by
    rw [hk.w0]; exact hh.frame.block k (by rw [← hk.base]; exact h1) (by rw [← hk.wr]; exact h2)⟩
  have hm : ∀ g, Mine c M' g → Mine c' M' g := fun g h => by unfold Mine at *; rw [hk.base, hk.wr]; exact h
  have hx : ∀ g, Fixed c M' g → Fixed c' M' g := fun g h => by unfold Fixed at *; rw [hk.base, hk.wr]; exact h
  refine ⟨hf, fun i b hi => ?_, fun i q hq => ?_, hh.injB, hh.injR, hh.apart, hJ, hh.defd, fun D hD => ?_, fun k h => ?_, hh.yl.trans hl.symm, hh.nd, hp⟩
  · obtain ⟨⟨vs, h1, h2, h3⟩, h4⟩ := hh.box i b hi
    refine ⟨⟨vs, h1, RL_tmps _ _ h2, h3⟩, ?_⟩
    cases ho : b.own <;> rw [ho] at h4
    · exact hx _ h4
    · exact hm _ h4
  · obtain ⟨h3, h4⟩ := hh.row i q hq
    refine ⟨h3, ?_⟩
    cases ho : q.own <;> rw [ho] at h4
    · obtain ⟨a, cap, h5, h6, h7, h8⟩ := h4
      exact ⟨a, cap, h5, h6, h7, fun j v hj => by obtain ⟨b, h9, h10, h11⟩ := h8 j v hj; exact ⟨b, h9, hx _ h10, by rw [hk.w0]; exact h11⟩⟩
    · exact ⟨h4.1, fun g hg => hm g (h4.2 g hg)⟩
  · rw [hk.base]; exact hh.defm D hD
  · rw [hk.base, hk.wr]; exact hh.mwr k h
def inlCtx (c : Ctx) (pv : List Value) (D0 : List Nat) : Ctx := { c with r := none, pv := pv, D0 := D0 }

theorem appendK_eq {α : Type} (l m : List α) : appendList l m = l ++ m := by
  induction l with
  | nil => rfl
  | cons x l ih => simp [appendList, ih]

theorem RL_st {st st' : St} {e : Env} {l : List AV} {vs : List Value} (hb : st'.boxes = st.boxes) (hr : st'.rows = st.rows) (h : RL st e l vs) : RL st' e l vs := by
  obtain ⟨ts, bs, rs, ys, pn⟩ := st
  obtain ⟨ts', bs', rs', ys', pn'⟩ := st'
  simp only at hb hr
  subst hb; subst hr
  exact RL_tmps _ _ h

theorem put_dst {st' : St} {e' : Env} {ts : List AV} {a : Act} {av : AV} {v : Value} (o : Option Tmp) (h : RL st' e' ts a.tmps.toList) (hv : R st' e' av v) :
    RL st' e' (match o with | some d => backSt.setAt ts d av | none => ts) (a.put o v).tmps.toList := by
  cases o with
  | none => exact h
  | some d =>
    have := RL_set h d hv
    simp only [Act.put, Array.toList_setIfInBounds, setAt_eq]
    exact this
theorem inl_body {st : St} {e : Env} {a : Act} {w : World} {fn : Func} {code : Code} {f : FuncId} {avs : List AV} {vals : List Value} {dst : Option Tmp} {k : St → Prop} {wr : Bool} (hTT : TTOK P TT) (hf : P.funcs[f]? = some fn) (hb : fn.body = some code)
    (hh : HeapOK c e st w) (ht : TmpsOK c st e a) (hargs : RL st e avs vals)
    (h : ∀ cI, Kin c cI → cI.r = none → Tr P cI code (inlSt fn.ntmps st avs) (inlEnd TT fn st.tmps.length wr dst k)) :
    Calls P f vals.toArray w fun en w' => ∃ v st' e', en = .returned v ∧ HeapOK c e' st' w' ∧ TmpsOK c st' e' (a.put dst v) ∧ k st' := by
  have hlen := RL_length ht.1
  let cI := inlCtx c (a.tmps.toList ++ c.pv) e.D
  have hk : Kin c cI := ⟨rfl, rfl, rfl, rfl⟩
  have hpin : RL st e (appendList st.tmps st.pin) (a.tmps.toList ++ c.pv) := by rw [appendK_eq]; exact RL_append ht.1 hh.pin
  have hh0 : HeapOK cI e (inlSt fn.ntmps st avs) w := by
    refine HeapOK.kin (c := c) (c' := cI) (st := st) (e := e) hk rfl rfl ⟨rfl, rfl, rfl, rfl⟩ rfl rfl hh.out ?_ hh
    exact RL_st (st := st) rfl rfl hpin
  have ht0 : TmpsOK cI (inlSt fn.ntmps st avs) e { tmps := vals.toArray ++ Array.replicate (fn.ntmps - vals.toArray.size) undef, defers := [] } := by
    refine ⟨?_, [], rfl, rfl⟩
    have := RL_fillAny fn.ntmps avs vals hargs
    have h2 := RL_st (st := st) (st' := inlSt fn.ntmps st avs) rfl rfl this
    show RL _ e (fillAny fn.ntmps avs) _
    simpa using h2
  refine callsW.1 (callsIn_of_wp_marks (F := W none) (n := 0) hf hb trivial ?_ rfl)
  have htr0 := h cI hk rfl e _ w hh0 ht0
  refine wpIn_mono htr0 ?_
  have hend : ∀ a1 w1, (∃ st1 e1, HeapOK cI e1 st1 w1 ∧ TmpsOK cI st1 e1 a1 ∧ (match resVs TT st1 fn.results.toList with | some vs => k (backSt st.tmps.length dst (wrapO wr (oneOf vs)) st1) | none => False)) →
      LeavesInM (W none) 0 P fn a1.tmps (fun en w' => ∃ v st' e', en = .returned v ∧ HeapOK c e' st' w' ∧ TmpsOK c st' e' (a.put dst v) ∧ k st') a1.defers .returning w1 := by
    rintro a1 w1 ⟨st1, e1, hh1, ⟨htR, own, hD, hdf⟩, hpost⟩
    rw [hdf]
    refine leaves_ok own e1 w1 hh1 hD (fun w2 hh2 => ?_)
    split at hpost
    · rename_i vs hvs
      have ht2 : RL st1 ⟨e1.β, e1.ρ, e1.M, cI.D0, e1.l⟩ st1.tmps a1.tmps.toList := RL_D htR
      obtain ⟨us, h1, h2⟩ := resVs_run hTT hh2 ht2 _ _ hvs
      have hrun : (results fn a1.tmps).run P w2 = .ok (if h : us.toArray.size = 1 then us.toArray[0] else .tuple us.toArray) w2 := by
        rw [results_eq, Sem.run_bind, Array.mapM_eq_mapM_toList, Sem.run_map, h2]
        rfl
      have hone : R st1 ⟨e1.β, e1.ρ, e1.M, cI.D0, e1.l⟩ (oneOf vs) (if h : us.toArray.size = 1 then us.toArray[0] else .tuple us.toArray) := by
        cases vs with
        | nil => simp only [RL] at h1; subst h1; exact ⟨[], by simp, rfl⟩
        | cons v vs' =>
          obtain ⟨u, us', rfl, h3, h4⟩ := h1
          cases vs' with
          | nil => simp only [RL] at h4; subst h4; simpa [oneOf] using h3
          | cons v2 vs2 =>
            obtain ⟨u2, us2, rfl, h5, h6⟩ := h4
            rw [dif_neg (by simp)]
            exact ⟨_, rfl, u, _, rfl, h3, u2, _, rfl, h5, h6⟩
      generalize hu : (if h : us.toArray.size = 1 then us.toArray[0] else .tuple us.toArray) = u at hrun hone
      obtain ⟨hp1, hp2⟩ := RL_split st.tmps.length st1.pin _ _ hlen hh2.pin
      refine ⟨u, hrun, u, _, ⟨e1.β, e1.ρ, e1.M, e.D, e1.l⟩, rfl, ?_, ?_, hpost⟩
      · refine HeapOK.kin (c := cI) (c' := c) (st := st1) (e := ⟨e1.β, e1.ρ, e1.M, e.D, e1.l⟩) ⟨rfl, rfl, rfl, rfl⟩ ?_ ?_ ⟨rfl, rfl, rfl, rfl⟩ rfl rfl ?_ ?_ hh2
        · unfold backSt; cases dst <;> rfl
        · unfold backSt; cases dst <;> rfl
        · have := hh2.out; unfold backSt; cases dst <;> exact this
        · unfold backSt; cases dst <;> exact RL_st (st := st1) rfl rfl hp2
      · refine ⟨?_, by cases dst <;> exact ht.2⟩
        have h3 := put_dst (a := a) dst hp1 (wrapO_R wr hone)
        unfold backSt
        cases dst <;> exact RL_st (st := st1) rfl rfl h3
    · exact hpost.elim
  intro ex a1 w1 hq
  cases ex with
  | normal => obtain ⟨st1, e1, h1, h2, h3⟩ := hq; exact hend a1 w1 ⟨st1, e1, h1, h2, h3⟩
  | ret => obtain ⟨st1, e1, h1, h2, h3⟩ := hq; exact hend a1 w1 ⟨st1, e1, h1, h2, h3⟩
  | exit id => obtain ⟨st1, e1, h1, h2, h3⟩ := hq; exact h3.elim
  | goto l => obtain ⟨st1, e1, h1, h2, h3⟩ := hq; exact h3.elim
  | panic ch => exact hq.elim
  | outgrown => exact hq.elim
def TrOne (P : Program) (c : Ctx) (o : Oper) (st : St) (k : St → Prop) : Prop :=
  ∀ (e : Env) (a : Act) (w : World) (K' : Act → World → Prop) (Q : Exit → Act → World → Prop), HeapOK c e st w → TmpsOK c st e a →
    (∀ st' e' a' w', HeapOK c e' st' w' → TmpsOK c st' e' a' → k st' → K' a' w') → o.wpIn (W c.r) 0 P a w K' Q

theorem trOps_none {ops : Array Oper} {o : Oper} {rest : List Oper} {st : St} {K : St → Prop} (hg : o.guard = none) (h : TrOne P c o st (fun st' => TrOps P c ops rest st' K)) : TrOps P c ops (o :: rest) st K := by
  intro e a w Q hh ht hK
  have hw : Region.wanted o (yielded ops a.tmps) = true := by simp [Region.wanted, hg]
  unfold wpListIn
  rw [if_pos hw]
  exact h e a w _ Q hh ht (fun st' e' a' w' h1 h2 h3 => h3 e' a' w' Q h1 h2 hK)

theorem inl_one {o : Oper} {x : Operand} {args : Array Operand} {tys : Array TypeId} {f : FuncId} {caps : List AV} {fn : Func} {code : Code} {st : St} {k : St → Prop} (wr : Bool) (hTT : TTOK P TT) (ho : o.op = .call ⟨.value x, args, tys⟩)
    (hx : (unopt true (opnd st.tmps x)).2 = .fn f caps) (hf : P.funcs[f]? = some fn) (hb : fn.body = some code) (hname : (fn.name == "runtime.NumGoroutine") = false)
    (h : conjP (optOf st.tmps true o.op.operands.toList) (∀ cI, Kin c cI → cI.r = none → Tr P cI code (inlSt fn.ntmps st (appendList (mapK (fun y => (unopt true (opnd st.tmps y)).2) args.toList) caps)) (inlEnd TT fn st.tmps.length wr o.dst k))) : TrOne P c o st k := by
  intro e a w K' Q hh ht hK
  rw [conjP_iff] at h
  obtain ⟨hp, h⟩ := h
  have hop : ∀ y ∈ o.op.operands.toList, R st e (unopt true (opnd st.tmps y)).2 (a.eval y) := fun y hy => unopt_R (g := true) (opnd_R ht y) rfl (optOf_spec hp y hy)
  rw [ho] at hop
  simp only [Op.operands, Call.operands] at hop
  have hxR := hop x (by simp)
  rw [hx] at hxR
  obtain ⟨vs, hv, hl⟩ := hxR
  have hargs : RL st e (appendList (mapK (fun y => (unopt true (opnd st.tmps y)).2) args.toList) caps) (args.toList.map a.eval ++ vs) := by
    rw [appendK_eq, mapK_eq]
    exact RL_append (RL_map fun y hy => hop y (by simp; exact .inr (by simpa using hy))) hl
  have hcalls := inl_body (dst := o.dst) (k := k) (wr := wr) hTT hf hb hh ht hargs h
  refine wp_in (fun cl hcl => by rw [ho] at hcl; cases hcl) ?_
  unfold Oper.wp
  have hargs' : args.map a.eval ++ vs.toArray = (args.toList.map a.eval ++ vs).toArray := Array.ext' (by simp)
  have : (execOp a.eval o).run P w = .ok (.enter f (args.toList.map a.eval ++ vs).toArray) w := by
    have hb' : fn.body ≠ none := by intro h'; rw [h'] at hb; cases hb
    have hne : fn.name ≠ "runtime.NumGoroutine" := by simpa using hname
    simp only [execOp, ho, Go.resolve, hv, Deferred.ofValue, invoke, callFunc]
    simp [hf, hne, hb', hargs']
  rw [this]
  simp only [Oper.upon]
  refine hcalls.mono ?_
  rintro en w' ⟨v, st', e', rfl, h1, h2, h3⟩
  exact hK st' e' _ w' h1 h2 h3
end
end Go.X

namespace Go.X
open Go.RowKit

theorem tdok_of {P : Program} {t : TypeId} {d : TD} {i : TypeInfo} {z : Value} (hi : P.info? t = some i) (hz : i.zero = some z) (hk : TKOK P t d.k) (hs : i.size = d.size ∧ i.bytes = d.bytes ∧ z.cells.toList.length = d.size) (hone : z.cells.toList.all (·.oneCell') = true)
    (hzero : d.big = none ∧ d.zero = mapK atomOf z.cells.toList ∨ ∃ k n, d.big = some (k, n) ∧ z.cells.toList = valsOf k (List.replicate n k.dflt) ∧ n ≤ 1000 ∧ k ≠ .byte)
    (hek : d.ek = none ∨ ∃ k, d.ek = some k ∧ d.size = k.size ∧ k ≠ .byte ∧ z.cells.toList = k.vals k.dflt)
    (heq : d.eqs = true → ∀ k, d.ek = some k → P.eqGuardType P.depth t = false ∧ ∀ (x y : k.ty) (w : World), (Op.equalIn 10000 t (.agg (k.vals x).toArray) (.agg (k.vals y).toArray)).run P w = .ok (k.eqb x y) w := by intro h; cases h) : TDOK P t d := by
  refine ⟨hk, ⟨i, hi, hs.1, hs.2.1, z, hz, fun hb st e => ?_, List.all_eq_true.1 hone, hs.2.2, fun k n hb => ?_⟩, fun k h => ?_, fun k h i' z' hi' hz' => ?_, heq⟩
  · rcases hzero with ⟨_, h⟩ | ⟨k, n, h, _⟩
    · rw [h]; exact mapK_atom_R _
    · rw [h] at hb; cases hb
  · rcases hzero with ⟨h, _⟩ | ⟨k', n', h, h2⟩
    · rw [h] at hb; cases hb
    · rw [h] at hb; cases hb; exact h2
  · rcases hek with h' | ⟨k', h', h2⟩
    · rw [h'] at h; cases h
    · rw [h'] at h; cases h; exact ⟨h2.1, h2.2.1⟩
  · rw [hi] at hi'; cases hi'
    rw [hz] at hz'; cases hz'
    rcases hek with h' | ⟨k', h', h2⟩
    · rw [h'] at h; cases h
    · rw [h'] at h; cases h; exact h2.2.2

def tabT : List (Nat × TD) → Nat → Option TD
  | [], _ => none
  | (n, d) :: l, m => match Nat.beq n m with | true => some d | false => tabT l m
def tabC : List (Nat × Con) → Nat → Option Con
  | [], _ => none
  | (n, d) :: l, m => match Nat.beq n m with | true => some d | false => tabC l m
def AllC (P : Program) (G : Nat → World → Prop) : List (Nat × Con) → Prop
  | [] => True
  | (n, d) :: l => ConOK P G n d ∧ AllC P G l
theorem tabC_ok {P : Program} {G : Nat → World → Prop} : ∀ (l : List (Nat × Con)), AllC P G l → ∀ f con, tabC l f = some con → ConOK P G f con := by
  intro l
  induction l with
  | nil => intro _ t d h; simp [tabC] at h
  | cons p l ih =>
    obtain ⟨n, d'⟩ := p
    intro hl t d h
    simp only [tabC] at h
    split at h
    · rename_i hb
      cases h
      have := Nat.eq_of_beq_eq_true hb
      subst this
      exact hl.1
    · exact ih hl.2 t d h

theorem fo {P : Program} {t : TypeId} {fs : Array Field} (h : P.underlying t = some (.struct fs)) : P.fieldsOf t = fs := by
  simp [Program.fieldsOf, h]
theorem info_of {P : Program} {t : TypeId} {i : TypeInfo} (h : P.types[t]? = some i) : P.info? t = some i := by
  unfold Tables.info?
  rw [if_pos (Array.getElem?_eq_some_iff.1 h).1]
  exact h
theorem chk_i {k : IntKind} {m n : Int} (h : n = m) : chk (.a (.i k m)) (.a (.i k n)) := by subst h; rfl
theorem chk_b {x y : Bool} (h : y = x) : chk (.a (.b x)) (.a (.b y)) := by subst h; rfl
theorem chk_s {x y : ByteArray} (h : y = x) : chk (.a (.s x)) (.a (.s y)) := by subst h; rfl
def cMark : Con := fun _ => none
theorem okMark {P : Program} {G : Nat → World → Prop} {f : FuncId} : ConOK P G f cMark := by
  intro c e st w avs rvs cr vals fb fr hG hh hres hargs hcr
  cases hcr
structure Seat (P : Program) (G : Nat → World → Prop) (TT : TypeId → Option TD) : Prop where
  tt : TTOK P TT
  mixed : P.follows .mixedOrders = true
  good : ∀ (c : Ctx), G c.g0 c.w0 → ∀ w, Frame c w → G c.g0 w
structure VS (P : Program) (TT : TypeId → Option TD) (C : Nat → Option Con) (c : Ctx) : Prop where
  code : ∀ (c' : Ctx), Kin c c' → ∀ (code : Code) (st : St) (K : Exit → St → Prop), drawsOk C code = true → stF st (fun st => vc P TT C noY c' code st K) → Tr P c' code st K
  ops : ∀ (c' : Ctx), Kin c c' → ∀ (ops : Array Oper) (l : List Oper) (st : St) (K : St → Prop), stF st (fun st => vcOps TT C noY (TrOps P c') ops l st K) → TrOps P c' ops l st K
theorem VS.kin {P : Program} {TT : TypeId → Option TD} {C : Nat → Option Con} {c c' : Ctx} (h : VS P TT C c) (hk : Kin c c') : VS P TT C c' := ⟨fun c'' hk' => h.code c'' (hk.trans hk'), fun c'' hk' => h.ops c'' (hk.trans hk')⟩
theorem VS.go {P : Program} {TT : TypeId → Option TD} {C : Nat → Option Con} {c : Ctx} (h : VS P TT C c) {code : Code} {st : St} {K : Exit → St → Prop} (hd : drawsOk C code = true) (hv : stF st (fun st => vc P TT C noY c code st K)) : Tr P c code st K := h.code c ⟨rfl, rfl, rfl, rfl⟩ code st K hd hv
theorem VS.on {P : Program} {TT : TypeId → Option TD} {C : Nat → Option Con} {c : Ctx} (h : VS P TT C c) {ops : Array Oper} {l : List Oper} {st : St} {K : St → Prop} (hv : stF st (fun st => vcOps TT C noY (TrOps P c) ops l st K)) : TrOps P c ops l st K := h.ops c ⟨rfl, rfl, rfl, rfl⟩ ops l st K hv
theorem seat_con {P : Program} {G : Nat → World → Prop} {TT : TypeId → Option TD} (hS : Seat P G TT) {f : FuncId} {fn : Func} {code : Code} {con : Con} (l : List (Nat × Con)) (sh : List (Option (TypeId × EK))) (hl : AllC P G l)
    (hf : P.funcs[f]? = some fn) (hb : fn.body = some code) (hname : (fn.name == "runtime.NumGoroutine") = false) (hd : drawsOk (tabC l) code = true)
    (h : ∀ rvs cr, con rvs = some cr → (∀ p ∈ cr.pre, p) → (cr.res.own = true ∧ cr.setr = [] ∧ occOk cr.kill (normL sh rvs) = true) ∧
      ∀ c : Ctx, c.r = none → VS P TT (tabC l) c → stF ⟨fillAny fn.ntmps (impL cr.kill 0 0 (normL sh rvs)).1, (impL cr.kill 0 0 (normL sh rvs)).2.1, (impL cr.kill 0 0 (normL sh rvs)).2.2, [], []⟩ (fun st => vc P TT (tabC l) noY c code st (endOf TT fn (postOf cr.res)))) : ConOK P G f con :=
  con_of_body sh hf hb hname hd hS.tt (tabC_ok l hl) (fun _ hgood hY => draw_ok hS.tt (tabC_ok l hl) hgood hY hS.mixed) hS.good (fun rvs cr h1 h2 => ⟨(h rvs cr h1 h2).1, fun c hc hgood => by
    have := (h rvs cr h1 h2).2 c hc ⟨fun c' hk code st K hd hv => by
      rw [stF_eq] at hv
      exact vc_sound hS.tt (tabC_ok l hl) (hk.good hgood) yok_no (draw_ok hS.tt (tabC_ok l hl) (hk.good hgood) yok_no hS.mixed) code st K hd hv,
      fun c' hk ops l' st K hv => by
      rw [stF_eq] at hv
      exact fun e a w Q hh ht hK => vcOps_sound hS.tt (tabC_ok l hl) (hk.good hgood) yok_no hK l' st e a w hh ht hv⟩
    rw [stF_eq] at this
    exact this⟩)
theorem seat_conT {P : Program} {G : Nat → World → Prop} {TT : TypeId → Option TD} (hS : Seat P G TT) {f : FuncId} {fn : Func} {code : Code} {con : Con} (l : List (Nat × Con)) (sh : List (Option (TypeId × EK))) (hl : AllC P G l)
    (hf : P.funcs[f]? = some fn) (hb : fn.body = some code) (hname : (fn.name == "runtime.NumGoroutine") = false)
    (h : ∀ rvs cr, con rvs = some cr → (∀ p ∈ cr.pre, p) → (cr.res.own = true ∧ cr.setr = [] ∧ occOk cr.kill (normL sh rvs) = true) ∧
      ∀ c : Ctx, c.r = none → VS P TT (tabC l) c → Tr P c code ⟨fillAny fn.ntmps (impL cr.kill 0 0 (normL sh rvs)).1, (impL cr.kill 0 0 (normL sh rvs)).2.1, (impL cr.kill 0 0 (normL sh rvs)).2.2, [], []⟩ (endOf TT fn (postOf cr.res))) : ConOK P G f con :=
  con_of_bodyT sh hf hb hname hS.tt hS.good (fun rvs cr h1 h2 => ⟨(h rvs cr h1 h2).1, fun c hc hgood => (h rvs cr h1 h2).2 c hc ⟨fun c' hk code st K hd hv => by
      rw [stF_eq] at hv
      exact vc_sound hS.tt (tabC_ok l hl) (hk.good hgood) yok_no (draw_ok hS.tt (tabC_ok l hl) (hk.good hgood) yok_no hS.mixed) code st K hd hv,
      fun c' hk ops l' st K hv => by
      rw [stF_eq] at hv
      exact fun e a w Q hh ht hK => vcOps_sound hS.tt (tabC_ok l hl) (hk.good hgood) yok_no hK l' st e a w hh ht hv⟩⟩)

section
variable {P : Program} {c : Ctx}
theorem Tr_seq {x y : Code} {st : St} {K : Exit → St → Prop} (h : Tr P c x st (exitThen (fun st' => Lf (Tr P c y st' K)) K)) : Tr P c (.seq x y) st K := by
  intro e a w hh ht
  refine wpIn_seq (wpIn_mono (h e a w hh ht) ?_)
  intro ex a' w' hq
  cases ex with
  | normal => obtain ⟨st', e', h1, h2, h3⟩ := hq; exact h3.un e' a' w' h1 h2
  | _ => exact hq
theorem Tr_gen {code : Code} {st : St} {K : Exit → St → Prop} (t : Nat) (v : ByteArray) (hg : st.tmps[t]? = some (.s v)) (h : ∀ s, s = v → stF ⟨backSt.setAt st.tmps t (.s s), st.boxes, st.rows, st.ys, st.pin⟩ fun st => Tr P c code st K) : Tr P c code st K := by
  have := h v rfl
  rw [stF_eq, setAt_eq] at this
  obtain ⟨ts, bs, rs, ys, pn⟩ := st
  have e : ts.set t (.s v) = ts := by
    apply List.ext_getElem?
    intro i
    rw [List.getElem?_set]
    by_cases hi : t = i
    · subst hi
      rw [if_pos rfl]
      have hg : ts[t]? = some (.s v) := hg
      rw [hg]
      simp [(List.getElem?_eq_some_iff.1 hg).1]
    · rw [if_neg hi]
  rwa [e] at this
end
end Go.X

namespace Go.X
open Go.RowKit

mutual
def AV.yvs : AV → Bool
  | .yv => true
  | .fn _ l => AV.yvsL l
  | .agg l => AV.yvsL l
  | .tup l => AV.yvsL l
  | .opt _ v => v.yvs
  | .ifc _ v => v.yvs
  | _ => false
def AV.yvsL : List AV → Bool
  | [] => false
  | x :: l => x.yvs || AV.yvsL l
end
def sweepY (v : AV) : AV := match v.yvs with | true => .any | false => v
def sweepYB : Option Box → Option Box
  | some ⟨T, cells, own⟩ => some ⟨T, mapK sweepY cells, own⟩
  | none => none

section
variable {st st' : St} {e e' : Env}
mutual
theorem noY_R (hb : ∀ id bx, getK none st.boxes id = some bx → ∃ bx', getK none st'.boxes id = some bx') (hr : st'.rows = st.rows) (hβ : e'.β = e.β) (hρ : e'.ρ = e.ρ) (v : AV) (x : Value) (hy : v.yvs = false) (h : R st e v x) : R st' e' v x := by
  match v with
  | .i .. | .b .. | .s .. | .nilp | .nilf | .nili | .nils | .mp _ | .pt _ | .any => exact h
  | .yv => simp [AV.yvs] at hy
  | .box id off =>
    obtain ⟨⟨bx, hbx⟩, rfl⟩ := h
    exact ⟨hb id bx hbx, by rw [hβ]⟩
  | .row id => simp only [R] at h ⊢; rw [hr, hρ]; exact h
  | .view id lo hi ex => simp only [R] at h ⊢; rw [hr, hρ]; exact h
  | .arrp id => simp only [R] at h ⊢; rw [hr, hρ]; exact h
  | .elt id ix sub => simp only [R] at h ⊢; rw [hr, hρ]; exact h
  | .fn f l => obtain ⟨vs, rfl, hl'⟩ := h; exact ⟨vs, rfl, noY_RL hb hr hβ hρ l vs (by simpa [AV.yvs] using hy) hl'⟩
  | .agg l => obtain ⟨vs, rfl, hl'⟩ := h; exact ⟨vs, rfl, noY_RL hb hr hβ hρ l vs (by simpa [AV.yvs] using hy) hl'⟩
  | .tup l => obtain ⟨vs, rfl, hl'⟩ := h; exact ⟨vs, rfl, noY_RL hb hr hβ hρ l vs (by simpa [AV.yvs] using hy) hl'⟩
  | .opt g v => exact ⟨fun hg => noY_R hb hr hβ hρ v x (by simpa [AV.yvs] using hy) (h.1 hg), h.2⟩
  | .ifc T v => obtain ⟨y, rfl, hy'⟩ := h; exact ⟨y, rfl, noY_R hb hr hβ hρ v y (by simpa [AV.yvs] using hy) hy'⟩
theorem noY_RL (hb : ∀ id bx, getK none st.boxes id = some bx → ∃ bx', getK none st'.boxes id = some bx') (hr : st'.rows = st.rows) (hβ : e'.β = e.β) (hρ : e'.ρ = e.ρ) (l : List AV) (vs : List Value) (hy : AV.yvsL l = false) (h : RL st e l vs) : RL st' e' l vs := by
  match l with
  | [] => exact h
  | x :: l =>
    obtain ⟨v, vs', h1, h2, h3⟩ := h
    simp only [AV.yvsL, Bool.or_eq_false_iff] at hy
    exact ⟨v, vs', h1, noY_R hb hr hβ hρ x v hy.1 h2, noY_RL hb hr hβ hρ l vs' hy.2 h3⟩
end

theorem sweepY_R (hb : ∀ id bx, getK none st.boxes id = some bx → ∃ bx', getK none st'.boxes id = some bx') (hr : st'.rows = st.rows) (hβ : e'.β = e.β) (hρ : e'.ρ = e.ρ) {v : AV} {x : Value} (h : R st e v x) : R st' e' (sweepY v) x := by
  unfold sweepY
  split
  · trivial
  · rename_i hy; exact noY_R hb hr hβ hρ v x hy h
theorem sweepY_RL (hb : ∀ id bx, getK none st.boxes id = some bx → ∃ bx', getK none st'.boxes id = some bx') (hr : st'.rows = st.rows) (hβ : e'.β = e.β) (hρ : e'.ρ = e.ρ) {l : List AV} {vs : List Value} (h : RL st e l vs) : RL st' e' (mapK sweepY l) vs := by
  induction l generalizing vs with
  | nil => exact h
  | cons x l ih => obtain ⟨v, vs', h1, h2, h3⟩ := h; exact ⟨v, vs', h1, sweepY_R hb hr hβ hρ h2, ih h3⟩
end

theorem getK_sweepYB (l : List (Option Box)) (i : Nat) : getK none (mapK sweepYB l) i = sweepYB (getK none l i) := by
  induction l generalizing i with
  | nil => rfl
  | cons x l ih => cases i with
    | zero => rfl
    | succ i => exact ih i

section
variable {P : Program} {G : Nat → World → Prop} {TT : TypeId → Option TD} {c : Ctx}
theorem HeapOK.hop {c' : Ctx} {st st' : St} {e e' : Env} {w : World} (hk : Kin c c') (hb : st'.boxes = mapK sweepYB st.boxes) (hr : st'.rows = st.rows) (hβ : e'.β = e.β) (hρ : e'.ρ = e.ρ) (hl : e'.l = c'.l)
    (hM : ∀ g, ¬ e.M g → (g < c.base ∨ ∃ cs T fz, w.heap[g]? = some (.cells cs T fz)) → ¬ e'.M g) (hD : ∀ D ∈ e'.D, w.heap[D]? = some (.deferred (some [])) ∧ ¬ e'.M D ∧ c.base ≤ D) (hnd : e'.D.Nodup)
    (hmwr : ∀ k, e'.M k → c.wr k ∨ c.base ≤ k) (hJ : c'.J st'.ys e'.M w) (hp : RL st' e' st'.pin c'.pv) (hh : HeapOK c e st w) : HeapOK c' e' st' w := by
  have hget : ∀ i, getK none st'.boxes i = sweepYB (getK none st.boxes i) := fun i => by rw [hb, getK_sweepYB]
  have hB : ∀ id bx, getK none st.boxes id = some bx → ∃ bx', getK none st'.boxes id = some bx' := fun id bx h => by rw [hget, h]; exact ⟨_, rfl⟩
  have hBB : ∀ i, blkB e' st' i = blkB e st i := fun i => by
    simp only [blkB, hget, hβ]
    cases getK none st.boxes i <;> rfl
  have hRR : ∀ i, blkR e' st' i = blkR e st i := fun i => by simp only [blkR, hr, hρ]
  have hf : Frame c' w := ⟨by rw [hk.w0]; exact hh.frame.os, by rw [hk.w0]; exact hh.frame.tape, by rw [hk.w0]; exact hh.frame.output, by rw [hk.w0]; exact hh.frame.size, fun k h1 h2 => by
    rw [hk.w0]; exact hh.frame.block k (by rw [← hk.base]; exact h1) (by rw [← hk.wr]; exact h2)⟩
  have hm : ∀ g, (∃ cs T fz, w.heap[g]? = some (.cells cs T fz)) → Mine c e.M g → Mine c' e'.M g := fun g hc h => by
    refine ⟨?_, hM g h.2 (.inr hc)⟩
    rw [hk.base, hk.wr]; exact h.1
  have hx : ∀ g, Fixed c e.M g → Fixed c' e'.M g := fun g h => ⟨by rw [hk.base]; exact h.1, by rw [hk.wr]; exact h.2.1, hM g h.2.2 (.inl h.1)⟩
  refine ⟨hf, fun i b' hi => ?_, fun i q hq => ?_, fun i j g h1 h2 => hh.injB i j g (by rw [← hBB]; exact h1) (by rw [← hBB]; exact h2), fun i j g h1 h2 => hh.injR i j g (by rw [← hRR]; exact h1) (by rw [← hRR]; exact h2),
    fun i j g h1 h2 => hh.apart i j g (by rw [← hBB]; exact h1) (by rw [← hRR]; exact h2), hJ, fun D hD' => (hD D hD').1, fun D hD' => ⟨(hD D hD').2.1, by rw [hk.base]; exact (hD D hD').2.2⟩, fun k h => by rw [hk.base, hk.wr]; exact hmwr k h, hl, hnd, hp⟩
  · rw [hget] at hi
    cases hgb : getK none st.boxes i with
    | none => rw [hgb] at hi; cases hi
    | some b =>
      rw [hgb] at hi
      obtain ⟨T, cells, own⟩ := b
      simp only [sweepYB, Option.some.injEq] at hi
      subst hi
      obtain ⟨⟨vs, h1, h2, h3⟩, h4⟩ := hh.box i _ hgb
      refine ⟨⟨vs, by rw [hβ]; exact h1, sweepY_RL hB hr hβ hρ h2, h3⟩, ?_⟩
      simp only at h4 ⊢
      rw [hβ]
      cases own
      · exact hx _ h4
      · exact hm _ ⟨_, _, _, h1⟩ h4
  · rw [hr] at hq
    obtain ⟨h3, h4⟩ := hh.row i q hq
    refine ⟨h3, ?_⟩
    rw [hρ]
    cases ho : q.own <;> rw [ho] at h4
    · obtain ⟨a, cap, h5, h6, h7, h8⟩ := h4
      exact ⟨a, cap, h5, h6, h7, fun j v hj => by obtain ⟨b, h9, h10, h11⟩ := h8 j v hj; exact ⟨b, h9, hx _ h10, by rw [hk.w0]; exact h11⟩⟩
    · exact ⟨h4.1, fun g hg => hm g (by obtain ⟨_, cs, T, fz, h5⟩ := h4.1.lt hg; exact ⟨cs, T, fz, h5⟩) (h4.2 g hg)⟩
theorem HeapOK.looped {st : St} {e : Env} {w : World} {l : Nat} {o : Obj} {ys : List (List AV)} (hh : HeapOK c e st w) (hl : e.M l) (hno : ∀ D ∈ e.D, D ≠ l) (hJ : c.J ys e.M (w.putObj l o)) : HeapOK c e ⟨st.tmps, st.boxes, st.rows, ys, st.pin⟩ (w.putObj l o) := by
  have ht : Turns w (w.putObj l o) l := putObj_turns o
  have hmine : ∀ g, Mine c e.M g → g ≠ l := fun g h hg => h.2 (hg ▸ hl)
  have hfix : ∀ g, Fixed c e.M g → g ≠ l := fun g h hg => h.2.2 (hg ▸ hl)
  refine ⟨⟨ht.os.trans hh.frame.os, ht.tape.trans hh.frame.tape, ht.output.trans hh.frame.output, Nat.le_trans hh.frame.size ht.size, fun k h1 h2 => ?_⟩, fun i b hi => ?_, fun i q hq => ?_, hh.injB, hh.injR, hh.apart, hJ, fun D hD => ?_, hh.defm, hh.mwr, hh.yl, hh.nd, RL_st (st := st) rfl rfl hh.pin⟩
  · rw [ht.block k (by have := hh.base_le; omega) (fun hk => by subst hk; rcases hh.mwr k hl with h3 | h3; exact h2 h3; omega)]
    exact hh.frame.block k h1 h2
  · obtain ⟨⟨vs, h1, h2, h3⟩, h4⟩ := hh.box i b hi
    refine ⟨⟨vs, (ht.block _ (hh.box_lt hi) ?_).trans h1, RL_st (st := st) rfl rfl h2, h3⟩, h4⟩
    cases ho : b.own <;> rw [ho] at h4
    · exact hfix _ h4
    · exact hmine _ h4
  · obtain ⟨h3, h4⟩ := hh.row i q hq
    refine ⟨h3, ?_⟩
    cases hro : q.own
    · rw [hro] at h4; exact h4
    · rw [hro] at h4
      exact ⟨h4.1.same (fun g hg hlt => ht.block g hlt (hmine g (h4.2 g hg))), h4.2⟩
  · rw [ht.block D (lt_of_heap (hh.defd D hD)) (hno D hD)]
    exact hh.defd D hD

theorem HeapOK.dead {st : St} {e : Env} {w : World} {l : Nat} {o : Obj} {r : Loop} (hh : HeapOK c e st w) (hl : w.heap[l]? = some (.loop r)) (hm : Mine c e.M l) : HeapOK c e st (w.putObj l o) := by
  have ht : Turns w (w.putObj l o) l := putObj_turns o
  have hne : ∀ g cs T fz, w.heap[g]? = some (.cells cs T fz) → g ≠ l := fun g cs T fz h heq => by rw [heq, hl] at h; cases h
  refine ⟨ht.frame hm hh.frame, fun i b hi => ?_, fun i q hq => ?_, hh.injB, hh.injR, hh.apart, ht.out hm hh, fun D hD => ?_, hh.defm, hh.mwr, hh.yl, hh.nd, hh.pin⟩
  · obtain ⟨⟨vs, h1, h2, h3⟩, h4⟩ := hh.box i b hi
    exact ⟨⟨vs, (ht.block _ (hh.box_lt hi) (hne _ _ _ _ h1)).trans h1, h2, h3⟩, h4⟩
  · obtain ⟨h3, h4⟩ := hh.row i q hq
    refine ⟨h3, ?_⟩
    cases hro : q.own
    · rw [hro] at h4; exact h4
    · rw [hro] at h4
      exact ⟨h4.1.same (fun g hg hlt => ht.block g hlt (by obtain ⟨_, cs, T, fz, h5⟩ := h4.1.lt hg; exact hne _ _ _ _ h5)), h4.2⟩
  · have h1 := hh.defd D hD
    rw [ht.block D (lt_of_heap h1) (fun h => by rw [h, hl] at h1; cases h1)]
    exact h1

theorem HeapOK.lessD {st : St} {e : Env} {w : World} {own Ds : List Nat} (hh : HeapOK c e st w) (hD : e.D = own ++ Ds) : HeapOK c ⟨e.β, e.ρ, e.M, Ds, e.l⟩ st w := by
  have hnd := hh.nd
  rw [hD] at hnd
  refine ⟨hh.frame, fun i b hi => ?_, hh.row, hh.injB, hh.injR, hh.apart, hh.out, fun D hD' => hh.defd D (by rw [hD]; exact List.mem_append_right _ hD'), fun D hD' => hh.defm D (by rw [hD]; exact List.mem_append_right _ hD'), hh.mwr, hh.yl, (List.nodup_append.1 hnd).2.1, RL_D hh.pin⟩
  obtain ⟨⟨vs, h1, h2, h3⟩, h4⟩ := hh.box i b hi
  exact ⟨⟨vs, h1, RL_D h2, h3⟩, h4⟩

def stOf : List (List AV) → LoopState × Option Code
  | [] => (.ready, none)
  | [[]] => (.busy, none)
  | [[.b _]] => (.done, some .ret)
  | [[.i _ n]] => (.done, some (.exit n.toNat))
  | _ => (.busy, none)

def JL (c0 : Ctx) (ys0 : List (List AV)) (l : Nat) (r : Loop) (ys : List (List AV)) (M : Nat → Prop) (w : World) : Prop :=
  c0.J ys0 (fun k => M k ∧ k ≠ l) w ∧ M l ∧ w.heap[l]? = some (.loop { r with state := (stOf ys).1, pending := (stOf ys).2 })

def loopCtx (c0 : Ctx) (ys0 : List (List AV)) (l : Nat) (r : Loop) (pv : List Value) (D0 : List Nat) : Ctx :=
  { c0 with
    r := none, l := l, pv := pv, D0 := D0, J := JL c0 ys0 l r
    Jlt := fun ys M w h k hk => by
      by_cases hkl : k = l
      · subst hkl; exact lt_of_heap h.2.2
      · exact c0.Jlt _ _ _ h.1 k ⟨hk, hkl⟩
    Jst := fun ys M w w' h h1 h2 h3 h4 h5 => ⟨c0.Jst _ _ _ _ h.1 h1 h2 h3 h4 fun k hk => h5 k hk.1, h.2.1, (h5 l h.2.1).trans h.2.2⟩ }
def IterCtx (c : Ctx) (n : Nat) (ps : Array Tmp) (asg body : Code) : Prop :=
  ∃ c0 ys0 r pv0, c.J = JL c0 ys0 c.l r ∧ c.pv = r.tmps.toList ++ pv0 ∧ r.tmps.size = n ∧ r.params = ps ∧ r.assign = asg ∧ r.body = body

theorem JL_put {c0 : Ctx} {ys0 ys ys' : List (List AV)} {l : Nat} {r : Loop} {M : Nat → Prop} {w : World} (h : JL c0 ys0 l r ys M w) : JL c0 ys0 l r ys' M (w.putObj l (.loop { r with state := (stOf ys').1, pending := (stOf ys').2 })) :=
  ⟨c0.Jst _ _ _ _ h.1 rfl rfl rfl (by simp) fun k hk => World.putObj_heap_other hk.2, h.2.1, World.putObj_heap_same (lt_of_heap h.2.2)⟩

def iterSt (n : Nat) (st : St) (caps : List AV) : St := ⟨fillAny n (.yv :: mapK sweepY caps), mapK sweepYB st.boxes, st.rows, [], mapK sweepY (appendList st.tmps st.pin)⟩
def outSt (n : Nat) (ys0 : List (List AV)) (st : St) : St := ⟨mapK sweepY (takeK n st.pin), mapK sweepYB st.boxes, st.rows, ys0, mapK sweepY (dropK n st.pin)⟩
def iterEnd (n : Nat) (ys0 : List (List AV)) (K : Exit → St → Prop) : Exit → St → Prop
  | .normal, st | .ret, st => match st.ys with
    | [] => K .normal (outSt n ys0 st)
    | [[.b _]] => K .ret (outSt n ys0 st)
    | [[.i _ m]] => K (.exit m.toNat) (outSt n ys0 st)
    | _ => False
  | _, _ => False

theorem tr_range {g : Operand} {ps : Array Tmp} {asg body : Code} {f : FuncId} {caps : List AV} {fn : Func} {code : Code} {st : St} {K : Exit → St → Prop} (hr : c.r = none) (hx : opnd st.tmps g = .fn f caps) (hf : P.funcs[f]? = some fn) (hb : fn.body = some code) (hres : fn.results = #[]) (hname : (fn.name == "runtime.NumGoroutine") = false)
    (h : ∀ c2, Kin c c2 → c2.r = none → IterCtx c2 st.tmps.length ps asg body → Tr P c2 code (iterSt fn.ntmps st caps) (iterEnd st.tmps.length st.ys K)) : Tr P c (.rangeFunc g ps asg body) st K := by
  intro e a w hh ht
  rw [hr]
  have hlen := RL_length ht.1
  have hgR := opnd_R ht g
  rw [hx] at hgR
  obtain ⟨vs, hv, hcl⟩ := hgR
  refine wpIn_rangeFunc fun fnid _ => ?_
  let l := w.heap.size + 1
  let rec0 : Loop := { state := .ready, pending := none, fn := fnid, tmps := a.tmps, params := ps, assign := asg, body := body, defers := w.heap.size }
  let w1 := (w.alloc (.deferred (some []))).alloc (.loop rec0)
  have hw1 : ∀ k, k < w.heap.size → w1.heap[k]? = w.heap[k]? := fun k hk => by
    show ((w.heap.push _).push _)[k]? = _
    rw [Array.getElem?_push_lt (by simp; omega), Array.getElem_push_lt (by simpa using hk)]
    exact (Array.getElem?_eq_getElem hk).symm
  have hwD : w1.heap[w.heap.size]? = some (.deferred (some [])) := by
    show ((w.heap.push _).push _)[w.heap.size]? = _
    rw [Array.getElem?_push_lt (by simp)]; simp
  have hwl : w1.heap[l]? = some (.loop rec0) := by
    have := World.alloc_heap_new (w.alloc (.deferred (some []))) (.loop rec0)
    rwa [World.size_alloc] at this
  have hsz : w1.heap.size = w.heap.size + 2 := by show ((w.heap.push _).push _).size = _; simp
  have hbl : Below w.heap.size w w1 := ⟨rfl, rfl, rfl, by omega, hw1⟩
  have hh1 := hh.moved hbl
  let e2 : Env := ⟨e.β, e.ρ, fun k => e.M k ∨ k = l, w.heap.size :: e.D, l⟩
  let c2 := loopCtx c st.ys l rec0 (a.tmps.toList ++ c.pv) (w.heap.size :: e.D)
  have hMl : ∀ k, e.M k → k < w.heap.size := fun k hk => hh.m_lt hk
  have hDl : ∀ D ∈ e.D, D < w.heap.size := fun D hD => lt_of_heap (hh.defd D hD)
  have hpin : RL st e (appendList st.tmps st.pin) (a.tmps.toList ++ c.pv) := by rw [appendK_eq]; exact RL_append ht.1 hh.pin
  have hB : ∀ id bx, getK none st.boxes id = some bx → ∃ bx', getK none (iterSt fn.ntmps st caps).boxes id = some bx' := fun id bx h => by
    show ∃ bx', getK none (mapK sweepYB st.boxes) id = some bx'
    rw [getK_sweepYB, h]; exact ⟨_, rfl⟩
  have hk : Kin c c2 := ⟨rfl, rfl, rfl, rfl⟩
  have hJ0 : c.J st.ys (fun k => (e.M k ∨ k = l) ∧ k ≠ l) w1 := by
    have : (fun k => (e.M k ∨ k = l) ∧ k ≠ l) = e.M := by
      funext k
      refine propext ⟨fun h => h.1.resolve_right h.2, fun h => ⟨.inl h, fun hk => ?_⟩⟩
      have := hMl k h; omega
    rw [this]; exact hh1.out
  have hh2 : HeapOK c2 e2 (iterSt fn.ntmps st caps) w1 := by
    refine HeapOK.hop (c := c) (st := st) (e := e) hk rfl rfl rfl rfl rfl ?_ ?_ ?_ ?_ ?_ ?_ hh1
    · rintro k hk1 hk2 (hk3 | hk3)
      · exact hk1 hk3
      · subst hk3
        rcases hk2 with hk2 | ⟨cs, T, fz, hk2⟩
        · have := hh.base_le; omega
        · rw [hwl] at hk2; cases hk2
    · intro D hD
      rcases List.mem_cons.1 hD with rfl | hD
      · exact ⟨hwD, fun h => by rcases h with h | h; exact absurd (hMl _ h) (Nat.lt_irrefl _); omega, hh.base_le⟩
      · exact ⟨hh1.defd D hD, fun h => by rcases h with h | h; exact (hh.defm D hD).1 h; have := hDl D hD; omega, (hh.defm D hD).2⟩
    · exact List.nodup_cons.2 ⟨fun h => absurd (hDl _ h) (Nat.lt_irrefl _), hh.nd⟩
    · rintro k (h1 | h1)
      · exact hh.mwr k h1
      · subst h1; have := hh.base_le; right; omega
    · exact ⟨hJ0, .inr rfl, hwl⟩
    · exact sweepY_RL (st := st) (e := e) (e' := e2) (st' := iterSt fn.ntmps st caps) hB rfl rfl rfl hpin
  refine ⟨l, [{ target := .collected w.heap.size, args := #[] }], w1, { target := .fn (.func f) vs.toArray, args := #[Value.func (.yield l) #[] #[]] }, w1, f, (#[Value.func (.yield l) #[] #[]] ++ vs.toArray), w1, run_enterLoop_outer _ _ _ _ _, ?_, fun _ _ => trivial, ?_, (fun h' : false = true => by cases h'), ?_⟩
  · simp only [rangeCall, Go.resolve, hv, Deferred.ofValue]
    simp [Act.eval]
  · have hb' : fn.body ≠ none := by intro h'; rw [h'] at hb; cases hb
    have hne : fn.name ≠ "runtime.NumGoroutine" := by simpa using hname
    simp [invoke, callFunc, hf, hne, hb', Act.eval]
  · refine callsIn_of_wp_marks (F := W none) (n := 0) hf hb trivial ?_ rfl
    have ht2 : TmpsOK c2 (iterSt fn.ntmps st caps) e2 { tmps := (#[Value.func (.yield l) #[] #[]] ++ vs.toArray) ++ Array.replicate (fn.ntmps - (#[Value.func (.yield l) #[] #[]] ++ vs.toArray).size) undef, defers := [] } := by
      refine ⟨?_, [], rfl, rfl⟩
      have h1 : RL (iterSt fn.ntmps st caps) e2 (.yv :: mapK sweepY caps) (Value.func (.yield l) #[] #[] :: vs) := ⟨_, _, rfl, rfl, sweepY_RL (st := st) (e := e) (e' := e2) (st' := iterSt fn.ntmps st caps) hB rfl rfl rfl hcl⟩
      have h2 := RL_fillAny fn.ntmps _ _ h1
      show RL _ e2 (fillAny fn.ntmps (.yv :: mapK sweepY caps)) _
      simpa [Nat.add_comm] using h2
    have htr := h c2 hk rfl ⟨c, st.ys, rec0, c.pv, rfl, rfl, by simpa using hlen, rfl, rfl, rfl⟩ e2 _ w1 hh2 ht2
    refine wpIn_mono htr ?_
    have hend : ∀ a1 w3, (∃ st3 e3, HeapOK c2 e3 st3 w3 ∧ TmpsOK c2 st3 e3 a1 ∧ (match st3.ys with
        | [] => K .normal (outSt st.tmps.length st.ys st3)
        | [[.b _]] => K .ret (outSt st.tmps.length st.ys st3)
        | [[.i _ m]] => K (.exit m.toNat) (outSt st.tmps.length st.ys st3)
        | _ => False)) →
        LeavesInM (W none) 0 P fn a1.tmps (rangePost (W none) 0 P l (QK c K) { a with defers := [{ target := .collected w.heap.size, args := #[] }] ++ a.defers }) a1.defers .returning w3 := by
      rintro a1 w3 ⟨st3, e3, hh3, ⟨_, own, hD, hdf⟩, hpost⟩
      rw [hdf]
      refine leaves_ok own e3 w3 hh3 hD (fun w4 hh4 => ?_)
      refine ⟨.tuple #[], by rw [results_eq, hres]; simp, ?_⟩
      have hout := hh4.out
      have hMl4 : e3.M l := hout.2.1
      have hl4 := hout.2.2
      let e4 : Env := ⟨e3.β, e3.ρ, fun k => e3.M k ∧ k ≠ l, w.heap.size :: e.D, e.l⟩
      have hnb : ∀ id bx, getK none st3.boxes id = some bx → ∃ bx', getK none (outSt st.tmps.length st.ys st3).boxes id = some bx' := fun id bx h => by
        show ∃ bx', getK none (mapK sweepYB st3.boxes) id = some bx'
        rw [getK_sweepYB, h]; exact ⟨_, rfl⟩
      obtain ⟨hp1, hp2⟩ := RL_split st.tmps.length st3.pin _ _ hlen hh4.pin
      have hh5 : HeapOK c e4 (outSt st.tmps.length st.ys st3) w4 := by
        refine HeapOK.hop (c := c2) (st := st3) (e := ⟨e3.β, e3.ρ, e3.M, c2.D0, e3.l⟩) ⟨rfl, rfl, rfl, rfl⟩ rfl rfl rfl rfl hh.yl ?_ ?_ ?_ ?_ ?_ ?_ hh4
        · exact fun k h1 _ h2 => h1 h2.1
        · intro D hD
          have h1 := hh4.defm D hD
          exact ⟨hh4.defd D hD, fun h2 => h1.1 h2.1, h1.2⟩
        · exact hh4.nd
        · exact fun k h1 => hh4.mwr k h1.1
        · exact hout.1
        · exact sweepY_RL (st := st3) (e := ⟨e3.β, e3.ρ, e3.M, c2.D0, e3.l⟩) (e' := e4) (st' := outSt st.tmps.length st.ys st3) hnb rfl rfl rfl hp2
      have hbase : c.base ≤ l := by have := hh.base_le; omega
      have ht5 : ∀ K'' : Exit → St → Prop, TmpsOK c (outSt st.tmps.length st.ys st3) e4 { a with defers := [{ target := .collected w.heap.size, args := #[] }] ++ a.defers } := fun _ => by
        obtain ⟨own0, h1, h2⟩ := ht.2
        refine ⟨sweepY_RL (st := st3) (e := ⟨e3.β, e3.ρ, e3.M, c2.D0, e3.l⟩) (e' := e4) (st' := outSt st.tmps.length st.ys st3) hnb rfl rfl rfl hp1, w.heap.size :: own0, ?_, ?_⟩
        · show w.heap.size :: e.D = _; rw [h1]; rfl
        · rw [h2]; rfl
      have hh6 : ∀ o, HeapOK c e4 (outSt st.tmps.length st.ys st3) (w4.putObj l o) := fun o => hh5.dead hl4 ⟨.inl hbase, fun h => h.2 rfl⟩
      split at hpost
      · rename_i hys
        refine ⟨none, _, run_endLoop hl4 (by rw [hys]; simp [stOf]) |>.trans (by rw [hys]; rfl), ?_⟩
        exact ⟨_, e4, hh6 _, ht5 K, hpost⟩
      · rename_i b hys
        refine ⟨some .ret, _, run_endLoop hl4 (by rw [hys]; simp [stOf]) |>.trans (by rw [hys]; rfl), ?_⟩
        exact wpIn_ret ⟨_, e4, hh6 _, ht5 K, hpost⟩
      · rename_i k m hys
        refine ⟨some (.exit m.toNat), _, run_endLoop hl4 (by rw [hys]; simp [stOf]) |>.trans (by rw [hys]; rfl), ?_⟩
        exact wpIn_exit ⟨_, e4, hh6 _, ht5 K, hpost⟩
      · exact hpost.elim
    intro ex a1 w3 hq
    cases ex with
    | normal => obtain ⟨st3, e3, h1, h2, h3⟩ := hq; exact hend a1 w3 ⟨st3, e3, h1, h2, h3⟩
    | ret => obtain ⟨st3, e3, h1, h2, h3⟩ := hq; exact hend a1 w3 ⟨st3, e3, h1, h2, h3⟩
    | exit id => obtain ⟨st3, e3, h1, h2, h3⟩ := hq; exact h3.elim
    | goto l => obtain ⟨st3, e3, h1, h2, h3⟩ := hq; exact h3.elim
    | panic ch => exact hq.elim
    | outgrown => exact hq.elim

def setMany : List AV → List Nat → List AV → List AV
  | ts, p :: ps, v :: vs => setMany (backSt.setAt ts p v) ps vs
  | ts, _, _ => ts
def roundSt (n : Nat) (ps : List Nat) (avs : List AV) (st : St) : St := ⟨setMany (takeK n st.pin) ps avs, st.boxes, st.rows, [], appendList st.tmps st.pin⟩
def ySt (ys : List (List AV)) (st : St) : St := ⟨st.tmps, st.boxes, st.rows, ys, st.pin⟩
def roundEnd (m : Nat) (wr : Bool) (dst : Option Tmp) (k : St → Prop) : Exit → St → Prop
  | .normal, st => (match st.ys with | [[]] => k (ySt [] (backSt m dst (wrapO wr (.b true)) st)) | _ => False)
  | .ret, st => (match st.ys with | [[]] => k (ySt [[.b true]] (backSt m dst (wrapO wr (.b false)) st)) | _ => False)
  | .exit n, st => (match st.ys with | [[]] => k (ySt [[.i .i64 n]] (backSt m dst (wrapO wr (.b false)) st)) | _ => False)
  | _, _ => False
def asgEnd (k : St → Prop) : Exit → St → Prop
  | .normal, st => (match st.ys with | [] => k (ySt [[]] st) | _ => False)
  | _, _ => False

theorem setMany_RL {st : St} {e : Env} : ∀ (ps : List Nat) (ts avs : List AV) (tmps : Array Value) (vals : List Value), RL st e ts tmps.toList → RL st e avs vals → vals.length = ps.length →
    RL st e (setMany ts ps avs) ((ps.zip vals).foldl (fun tmps (p : Nat × Value) => tmps.setIfInBounds p.1 p.2) tmps).toList := by
  intro ps
  induction ps with
  | nil => intro ts avs tmps vals h _ _; cases avs <;> exact h
  | cons p ps ih =>
    intro ts avs tmps vals h1 h2 hn
    cases vals with
    | nil => simp at hn
    | cons v vals =>
      cases avs with
      | nil => simp [RL] at h2
      | cons av avs =>
        obtain ⟨u, us, h3, h4, h5⟩ := h2
        cases h3
        simp only [setMany, List.zip_cons_cons, List.foldl_cons]
        refine ih _ _ _ _ ?_ h5 (by simpa using hn)
        rw [setAt_eq, Array.toList_setIfInBounds]
        exact RL_set h1 p h4

theorem yield_one {o : Oper} {x : Operand} {args : Array Operand} {tys : Array TypeId} {st : St} {k : St → Prop} {n : Nat} {ps : Array Tmp} {asg body : Code} (wr : Bool) (hI : IterCtx c n ps asg body) (ho : o.op = .call ⟨.value x, args, tys⟩)
    (hx : (unopt true (opnd st.tmps x)).2 = .yv) (hys : st.ys = []) (hn : args.size = ps.size)
    (h : conjP (optOf st.tmps true o.op.operands.toList) (∀ c3, Kin c c3 → Tr P c3 asg (roundSt n ps.toList (mapK (fun y => (unopt true (opnd st.tmps y)).2) args.toList) st) (asgEnd fun st1 => Tr P c3 body st1 (roundEnd st.tmps.length wr o.dst k)))) : TrOne P c o st k := by
  intro e a w K' Q hh ht hK
  rw [conjP_iff] at h
  obtain ⟨hp, h⟩ := h
  have hop : ∀ y ∈ o.op.operands.toList, R st e (unopt true (opnd st.tmps y)).2 (a.eval y) := fun y hy => unopt_R (g := true) (opnd_R ht y) rfl (optOf_spec hp y hy)
  rw [ho] at hop
  simp only [Op.operands, Call.operands] at hop
  have hxR := hop x (by simp)
  rw [hx] at hxR
  have hxv : a.eval x = .func (.yield c.l) #[] #[] := by rw [← hh.yl]; exact hxR
  have hargs : RL st e (mapK (fun y => (unopt true (opnd st.tmps y)).2) args.toList) (args.toList.map a.eval) := by
    rw [mapK_eq]
    exact RL_map fun y hy => hop y (by simp; exact .inr (by simpa using hy))
  have hlen := RL_length ht.1
  obtain ⟨c0, ys0, r, pv0, hJ, hpv, hrn, hps, rfl, rfl⟩ := hI
  have hout := hh.out
  rw [hJ, hys] at hout
  have hl0 := hout.2.2
  have hpin := hh.pin
  rw [hpv] at hpin
  obtain ⟨hp1, hp2⟩ := RL_split n st.pin _ _ (by simpa using hrn) hpin
  let c3 : Ctx := { c with r := some c.l, pv := a.tmps.toList ++ c.pv, D0 := e.D }
  have hk : Kin c c3 := ⟨rfl, rfl, rfl, rfl⟩
  have hd : ∀ cl, o.op ≠ .defer cl := fun cl hcl => by rw [ho] at hcl; cases hcl
  refine ⟨fun _ _ => trivial, ?_⟩
  rw [Oper.semAt_plain (W c.r) a.eval o hd]
  have hrun : (execOp a.eval o).run P w = .ok (.round c.l r.fn ((ps.zip (args.map a.eval)).foldl (fun tmps (t, a) => tmps.setIfInBounds t a) r.tmps) r.assign r.body) w := by
    have hy := run_yield (P := P) (args := args.map a.eval) hl0 (by simp only [Array.size_map, hps]; exact hn)
    simp only [execOp, ho, Go.resolve, hxv, Deferred.ofValue, invoke]
    simp [hy, hps]
  rw [hrun]
  refine ⟨(fun h' => by cases h'), ?_⟩
  refine roundIn_of_wpIn trivial ?_
  have hh3 : HeapOK c3 e (roundSt n ps.toList (mapK (fun y => (unopt true (opnd st.tmps y)).2) args.toList) st) w := by
    refine HeapOK.kin (c := c) (st := st) (e := e) hk rfl rfl ⟨rfl, rfl, rfl, rfl⟩ rfl rfl ?_ ?_ hh
    · show c.J [] e.M w; rw [← hys]; exact hh.out
    · refine RL_st (st := st) rfl rfl ?_
      show RL st e (appendList st.tmps st.pin) (a.tmps.toList ++ c.pv)
      rw [appendK_eq]; exact RL_append ht.1 hh.pin
  have ht3 : TmpsOK c3 (roundSt n ps.toList (mapK (fun y => (unopt true (opnd st.tmps y)).2) args.toList) st) e { tmps := (ps.zip (args.map a.eval)).foldl (fun tmps (t, a) => tmps.setIfInBounds t a) r.tmps, defers := [] } := by
    refine ⟨?_, [], rfl, rfl⟩
    refine RL_st (st := st) rfl rfl ?_
    have := setMany_RL ps.toList (takeK n st.pin) _ r.tmps _ hp1 hargs (by simpa using hn)
    show RL st e (setMany (takeK n st.pin) ps.toList (mapK (fun y => (unopt true (opnd st.tmps y)).2) args.toList)) _
    rw [← Array.foldl_toList]
    simpa using this
  have htr := h c3 hk e _ w hh3 ht3
  refine wpIn_mono htr ?_
  intro ex a1 w1 hq
  cases ex with
  | normal =>
    obtain ⟨st1, e1, hh1, ht1, hq⟩ := hq
    simp only [asgEnd] at hq
    split at hq
    · rename_i hys1
      have hout1 : JL c0 ys0 c.l r [] e1.M w1 := by have := hh1.out; rw [hys1] at this; rw [← hJ]; exact this
      have hDl : ∀ {ys' : List (List AV)} {st' : St} {e' : Env} {w' : World}, HeapOK c3 e' st' w' → JL c0 ys0 c.l r ys' e'.M w' → ∀ D ∈ e'.D, D ≠ c.l := fun hh' hj D hD h => by
        have h1 := hh'.defd D hD
        rw [h, hj.2.2] at h1; cases h1
      refine ⟨_, run_beginRound hout1.2.2 rfl, ?_⟩
      have hh2 : HeapOK c3 e1 (ySt [[]] st1) (w1.putObj c.l (.loop { r with state := .busy, pending := none })) :=
        hh1.looped hout1.2.1 (hDl hh1 hout1) (by show c.J _ _ _; rw [hJ]; exact JL_put (ys' := [[]]) hout1)
      have ht2 : TmpsOK c3 (ySt [[]] st1) e1 a1 := ⟨RL_st (st := st1) rfl rfl ht1.1, ht1.2⟩
      have htb := hq e1 a1 _ hh2 ht2
      refine wpIn_mono htb ?_
      have hend : ∀ (j : Option Code) (ys' : List (List AV)) (b : Bool) (a2 : Act) (w2 : World) (st2 : St) (e2 : Env), HeapOK c3 e2 st2 w2 → TmpsOK c3 st2 e2 a2 → st2.ys = [[]] → b = j.isNone → stOf ys' = (if j.isNone then .ready else .done, j) →
          k (ySt ys' (backSt st.tmps.length o.dst (wrapO wr (.b b)) st2)) → ∃ v w', (Instr.endRound c.l j).run P w2 = .ok v w' ∧ (match Ending.returned v with
            | .returned v => K' (a.put o.dst v) w'
            | .panicked chain => Q (.panic chain) a w'
            | .outgrown => LetsOut Q) := by
        intro j ys' b a2 w2 st2 e2 hh4 ht4 hys2 hb hst hk4
        have hout4 : JL c0 ys0 c.l r [[]] e2.M w2 := by have := hh4.out; rw [hys2] at this; rw [← hJ]; exact this
        refine ⟨_, _, run_endRound j hout4.2.2, ?_⟩
        have hput := JL_put (ys' := ys') hout4
        rw [hst] at hput
        have hh5 : HeapOK c3 e2 (ySt ys' st2) _ := hh4.looped hout4.2.1 (hDl hh4 hout4) (by show c.J _ _ _; rw [hJ]; exact hput)
        obtain ⟨own, hD, _⟩ := ht4.2
        have hh6 := hh5.lessD hD
        obtain ⟨hq1, hq2⟩ := RL_split st.tmps.length st2.pin _ _ hlen hh4.pin
        have hone : R st2 ⟨e2.β, e2.ρ, e2.M, e.D, e2.l⟩ (wrapO wr (.b b)) (.bool j.isNone) := wrapO_R wr (by rw [hb]; rfl)
        refine hK (ySt ys' (backSt st.tmps.length o.dst (wrapO wr (.b b)) st2)) ⟨e2.β, e2.ρ, e2.M, e.D, e2.l⟩ _ _ ?_ ?_ hk4
        · refine HeapOK.kin (c := c3) (c' := c) (st := ySt ys' st2) (e := ⟨e2.β, e2.ρ, e2.M, e.D, e2.l⟩) ⟨rfl, rfl, rfl, rfl⟩ ?_ ?_ ⟨rfl, rfl, rfl, rfl⟩ rfl rfl ?_ ?_ hh6
          · unfold backSt; cases o.dst <;> rfl
          · unfold backSt; cases o.dst <;> rfl
          · exact hh6.out
          · unfold backSt; cases o.dst <;> exact RL_D (RL_st (st := st2) rfl rfl hq2)
        · refine ⟨?_, by cases o.dst <;> exact ht.2⟩
          have h3 := put_dst (a := a) o.dst (RL_D (Ds := e.D) hq1) hone
          unfold backSt
          cases hd : o.dst with
          | none => rw [hd] at h3; exact RL_st (st := st2) rfl rfl h3
          | some d => rw [hd] at h3; exact RL_st (st := st2) rfl rfl h3
      intro ex a2 w2 hq2
      cases ex with
      | normal =>
        obtain ⟨st2, e2, h1, h2, h3⟩ := hq2
        simp only [roundEnd] at h3
        split at h3
        · rename_i hy; exact hend none [] true a2 w2 st2 e2 h1 h2 hy rfl rfl h3
        · exact h3.elim
      | ret =>
        obtain ⟨st2, e2, h1, h2, h3⟩ := hq2
        simp only [roundEnd] at h3
        split at h3
        · rename_i hy; exact hend (some .ret) [[.b true]] false a2 w2 st2 e2 h1 h2 hy rfl rfl h3
        · exact h3.elim
      | exit id =>
        obtain ⟨st2, e2, h1, h2, h3⟩ := hq2
        simp only [roundEnd] at h3
        split at h3
        · rename_i hy; exact hend (some (.exit id)) [[.i .i64 id]] false a2 w2 st2 e2 h1 h2 hy rfl rfl h3
        · exact h3.elim
      | goto l => obtain ⟨st2, e2, h1, h2, h3⟩ := hq2; exact h3.elim
      | panic ch => exact hq2.elim
      | outgrown => exact hq2.elim
    · exact hq.elim
  | exit id => obtain ⟨st1, e1, _, _, h3⟩ := hq; exact h3.elim
  | ret => obtain ⟨st1, e1, _, _, h3⟩ := hq; exact h3.elim
  | goto l => obtain ⟨st1, e1, _, _, h3⟩ := hq; exact h3.elim
  | panic ch => exact hq.elim
  | outgrown => exact hq.elim
end
end Go.X
