/-
  Parts of the proof.
-/
import Derived.Test.YtebdmniefanenaaGreatDoorA1
import Derived.Lib.Bytealg
import Derived.Shelf.GgClosure.StringsIndexFunc
import Derived.Laws.BitsAllLaws
import Derived.Lib.TrailingZeros
import Derived.Sort.Grow
import Derived.Lib.Join
import Derived.Lib.UnsafeStr
import Derived.Lib.Builder
import Derived.Laws.IdiomCopy
import Derived.Deep.Upon
import Derived.Deep.Draws
import Derived.Laws.IdiomRangeMap
import Derived.WideMake
import Derived.Laws.RangeString
import Derived.Laws.RangeAny
import Derived.Lib.SplitLaws
import Derived.Lib.AtoiAllCases
import Derived.Lib.ItoaNum

set_option linter.unusedSimpArgs false
set_option linter.unusedVariables false

namespace Go.X
open Go.RowKit

mutual
def valC : AV → Option Value
  | .i k n => some (.int k n)
  | .b x => some (.bool x)
  | .s x => some (.string x)
  | .nili => some .nilIface
  | .agg l => (match valCL l with | some vs => some (.agg vs.toArray) | none => none)
  | .ifc T v => (match valC v with | some y => some (.iface T y) | none => none)
  | _ => none
def valCL : List AV → Option (List Value)
  | [] => some []
  | x :: l => (match valC x with
    | some v => (match valCL l with | some vs => some (v :: vs) | none => none)
    | none => none)
end
mutual
theorem valC_R {st : St} {e : Env} (v : AV) (x u : Value) (hv : valC v = some u) (h : R st e v x) : x = u := by
  match v with
  | .i .. | .b _ | .s _ | .nili => simp only [valC, Option.some.injEq] at hv; rw [← hv]; exact h
  | .agg l =>
    obtain ⟨vs, h1, h2⟩ := h
    simp only [valC] at hv
    split at hv
    · rename_i us hus; cases hv; rw [h1, valCL_R l vs us hus h2]
    · cases hv
  | .ifc T v =>
    obtain ⟨y, h1, h2⟩ := h
    simp only [valC] at hv
    split at hv
    · rename_i z hz; cases hv; rw [h1, valC_R v y z hz h2]
    · cases hv
  | .nilp | .nilf | .nils | .mp _ | .pt _ | .box .. | .row _ | .view .. | .arrp _ | .elt .. | .fn .. | .yv | .tup _ | .opt .. | .any => simp [valC] at hv
theorem valCL_R {st : St} {e : Env} (l : List AV) (xs us : List Value) (hv : valCL l = some us) (h : RL st e l xs) : xs = us := by
  match l with
  | [] => simp only [valCL, Option.some.injEq] at hv; rw [← hv]; exact h
  | x :: l =>
    obtain ⟨v, vs', h1, h2, h3⟩ := h
    simp only [valCL] at hv
    split at hv
    · rename_i a ha
      split at hv
      · rename_i b hb; cases hv; rw [h1, valC_R x v a ha h2, valCL_R l vs' b hb h3]
      · cases hv
    · cases hv
end
def valRV : RV → Option Value
  | .a .nili => some .nilIface
  | .a (.ifc T v) => valC (.ifc T v)
  | .a (.i k n) => some (.int k n)
  | .a (.b x) => some (.bool x)
  | .a (.s x) => some (.string x)
  | .fn f [] => some (.func (.func f) #[] #[])
  | _ => none
def valsRV : List RV → Option (List Value)
  | [] => some []
  | r :: l => match valRV r with
    | some v => match valsRV l with | some vs => some (v :: vs) | none => none
    | none => none

section
variable {P : Program} {G : Nat → World → Prop}

theorem valRV_R {st : St} {e : Env} {v : AV} {rv : RV} {x u : Value} (hres : resolve st v = some rv) (hv : valRV rv = some u) (h : R st e v x) : x = u := by
  unfold resolve at hres
  generalize (200 : Nat) = n at hres
  cases n with
  | zero => simp [resolveF] at hres
  | succ n =>
  cases v with
  | i k n => simp only [resolveF, Option.some.injEq] at hres; subst hres; cases hv; exact h
  | b y => simp only [resolveF, Option.some.injEq] at hres; subst hres; cases hv; exact h
  | s y => simp only [resolveF, Option.some.injEq] at hres; subst hres; cases hv; exact h
  | nili => simp only [resolveF, Option.some.injEq] at hres; subst hres; cases hv; exact h
  | ifc T y =>
    simp only [resolveF] at hres
    split at hres
    · simp only [Option.some.injEq] at hres; subst hres; exact valC_R (.ifc T y) _ _ hv h
    · cases hres
  | fn f l =>
    simp only [resolveF] at hres
    split at hres
    · rename_i m hm
      cases hres
      cases m with
      | cons _ _ => simp [valRV] at hv
      | nil =>
        cases hv
        cases l with
        | nil => obtain ⟨vs, h1, h2⟩ := h; simp only [RL] at h2; subst h2; exact h1
        | cons y l =>
          cases n with
          | zero => simp [resolveFL] at hm
          | succ n =>
          simp only [resolveFL] at hm
          split at hm
          · split at hm <;> cases hm
          · cases hm
    · cases hres
  | _ =>
    simp only [resolveF] at hres
    first
      | (cases hres; done)
      | (cases hres; simp [valRV] at hv; done)
      | (split at hres <;> first | (cases hres; done) | (split at hres <;> first | (cases hres; done) | (cases hres; simp [valRV] at hv; done)) | (cases hres; simp [valRV] at hv; done))

theorem valsRV_RL {st : St} {e : Env} : ∀ (l : List AV) (rvs : List RV) (xs us : List Value), allRes (resolve st) l = some rvs → valsRV rvs = some us → RL st e l xs → xs = us := by
  intro l
  induction l with
  | nil => intro rvs xs us h1 h2 h3; simp only [allRes, Option.some.injEq] at h1; subst h1; simp only [valsRV, Option.some.injEq] at h2; subst h2; exact h3
  | cons v l ih =>
    intro rvs xs us h1 h2 h3
    simp only [allRes] at h1
    split at h1
    · rename_i r hr
      split at h1
      · rename_i m hm
        cases h1
        simp only [valsRV] at h2
        split at h2
        · rename_i u hu
          split at h2
          · rename_i us' hus
            cases h2
            obtain ⟨x, xs', rfl, h4, h5⟩ := h3
            rw [valRV_R hr hu h4, ih _ _ _ hm hus h5]
          · cases h2
        · cases h2
      · cases h1
    · cases h1

theorem con_ext {f : FuncId} {con : Con} {fn : Func} (hf : P.funcs[f]? = some fn) (hb : fn.body.isSome = true) (hname : (fn.name == "runtime.NumGoroutine") = false)
    (h : ∀ rvs cr, con rvs = some cr → (∀ p ∈ cr.pre, p) → ∃ us u av, valsRV rvs = some us ∧ cr = ⟨cr.pre, .a av, [], []⟩ ∧ (∀ st e, R st e av u) ∧ ∀ g0 w, g0 ≤ w.heap.size → G g0 w → Calls P f us.toArray w fun e w' => e = .returned u ∧ Below w.heap.size w w') : ConOK P G f con := by
  intro c e st w avs rvs cr vals fb fr hG hh hres hargs hcr hpre _ _
  refine ⟨⟨fn, hf, hb, hname⟩, ?_⟩
  obtain ⟨us, u, av, h1, h2, h3, h4⟩ := h rvs cr hcr hpre
  rw [valsRV_RL _ _ _ _ hres h1 hargs]
  refine (h4 c.g0 w (Nat.le_trans c.g0_le hh.base_le) hG).mono ?_
  rintro en w' ⟨rfl, hbl⟩
  rw [h2]
  refine ⟨u, e, rfl, hh.moved hbl, pres_refl, h3 _ _⟩
end
end Go.X

namespace Go.X
open Go.RowKit

def topCtx (g0 : Nat) (w : World) (h : g0 ≤ w.heap.size) : Ctx where
  base := w.heap.size
  wr := fun _ => False
  w0 := w
  size := rfl
  g0 := g0
  g0_le := h
  wr_ge := fun _ h => h.elim
  r := none
  l := 0
  pv := []
  D0 := []
  J := fun _ M _ => ∀ k, ¬ M k
  Jlt := fun _ _ _ h k hk => absurd hk (h k)
  Jst := fun _ _ _ _ h _ _ _ _ _ => h
def st0 : St := ⟨[], [], [], [], []⟩
def e0 : Env := ⟨fun _ => 0, fun _ => undef, fun _ => False, [], 0⟩

theorem top_ok {g0 : Nat} {w : World} (h : g0 ≤ w.heap.size) : HeapOK (topCtx g0 w h) e0 st0 w :=
  ⟨⟨rfl, rfl, rfl, Nat.le_refl _, fun _ _ _ => rfl⟩, fun i b hi => by simp [st0, getK] at hi, fun i b hi => by simp [st0, getK] at hi, fun i j g hi => by simp [blkB, st0, getK] at hi, fun i j g hi => by simp [blkR, st0, getK] at hi, fun i j g hi => by simp [blkB, st0, getK] at hi,
    fun k h => h, fun D hD => by simp [e0] at hD, fun D hD => by simp [e0] at hD, fun k h => h.elim, rfl, by simp [e0], rfl⟩

theorem top_below {g0 : Nat} {w w' : World} {h : g0 ≤ w.heap.size} (hf : Frame (topCtx g0 w h) w') : Below w.heap.size w w' :=
  ⟨hf.os, hf.tape, hf.output, hf.size, fun k hk => hf.block k hk (fun h => h)⟩
theorem con_calls {P : Program} {G : Nat → World → Prop} {f : FuncId} {con : Con} {w : World} {g0 : Nat} {avs : List AV} {rvs : List RV} {cr : CR} {vals : List Value} (hC : ConOK P G f con) (hg : g0 ≤ w.heap.size) (hG : G g0 w)
    (hres : allRes (resolve st0) avs = some rvs) (hR : RL st0 e0 avs vals) (hcr : con rvs = some cr) (hpre : ∀ p ∈ cr.pre, p) :
    Calls P f vals.toArray w fun en w' => ∃ v e', en = .returned v ∧ HeapOK (topCtx g0 w hg) e' ((cr.eff 0 0).apply 0 0 st0) w' ∧ R ((cr.eff 0 0).apply 0 0 st0) e' (cr.res.inst 0 0).1 v := by
  refine (hC (topCtx g0 w hg) e0 st0 w avs rvs cr vals 0 0 hG (top_ok hg) hres hR hcr hpre (fun j _ _ => by simp [st0, getK]) (fun j _ _ => by simp [st0, getK])).2.mono ?_
  rintro en w' ⟨v, e', h1, h2, _, h4⟩
  exact ⟨v, e', h1, h2, h4⟩
end Go.X

namespace Go.X
open Go.RowKit
section
variable {P : Program} {c : Ctx}

theorem HeapOK.recell {st : St} {e : Env} {w : World} {b : Nat} {bx : Box} {cells : List AV} (hh : HeapOK c e st w) (hb : getK none st.boxes b = some bx) (h : ∀ vs, RL st e bx.cells vs → RL st e cells vs) :
    HeapOK c e ⟨st.tmps, putAt none st.boxes b (some ⟨bx.T, cells, bx.own⟩), st.rows, st.ys, st.pin⟩ w ∧ Pres st e ⟨st.tmps, putAt none st.boxes b (some ⟨bx.T, cells, bx.own⟩), st.rows, st.ys, st.pin⟩ e [] := by
  have hp : Pres st e ⟨st.tmps, putAt none st.boxes b (some ⟨bx.T, cells, bx.own⟩), st.rows, st.ys, st.pin⟩ e [] := by
    refine pres_of rfl rfl (fun id q hq => ⟨?_, rfl⟩) (fun id q _ hq => ⟨⟨q, hq, rfl, Nat.le_refl _⟩, rfl⟩)
    rw [getK_putAt]
    split
    · exact ⟨_, rfl⟩
    · exact ⟨q, hq⟩
  have hBB : ∀ i, blkB e ⟨st.tmps, putAt none st.boxes b (some ⟨bx.T, cells, bx.own⟩), st.rows, st.ys, st.pin⟩ i = blkB e st i := fun i => by
    simp only [blkB, getK_putAt]
    by_cases hi : i = b
    · subst hi; rw [if_pos rfl, hb]
    · rw [if_neg hi]
  refine ⟨⟨hh.frame, fun i q hq => ?_, hh.row, fun i j g h1 h2 => hh.injB i j g (by rw [← hBB]; exact h1) (by rw [← hBB]; exact h2), hh.injR, fun i j g h1 h2 => hh.apart i j g (by rw [← hBB]; exact h1) h2, hh.out, hh.defd, hh.defm, hh.mwr, hh.yl, hh.nd, RL_keep hp hh.pin⟩, hp⟩
  rw [getK_putAt] at hq
  by_cases hi : i = b
  · subst hi
    rw [if_pos rfl] at hq
    cases hq
    obtain ⟨⟨vs, h1, h2, h3⟩, h4⟩ := hh.box i bx hb
    exact ⟨⟨vs, h1, RL_keep hp (h vs h2), h3⟩, h4⟩
  · rw [if_neg hi] at hq
    obtain ⟨⟨vs, h1, h2, h3⟩, h4⟩ := hh.box i q hq
    exact ⟨⟨vs, h1, RL_keep hp h2, h3⟩, h4⟩

theorem RL_renil {st : St} {e : Env} {fr : Nat} (hrow : R st e (.row fr) (.slice none 0 0)) : ∀ (l : List AV) (j : Nat) (vs : List Value), getK .any l j = .nils → RL st e l vs → RL st e (backSt.setAt l j (.row fr)) vs := by
  intro l
  induction l with
  | nil => intro j vs h; cases j <;> simp [getK] at h
  | cons x l ih =>
    intro j vs h hl
    obtain ⟨v, vs', rfl, h1, h2⟩ := hl
    cases j with
    | zero =>
      simp only [getK] at h
      subst h
      simp only [R] at h1
      subst h1
      exact ⟨_, vs', rfl, hrow, h2⟩
    | succ j => exact ⟨v, vs', rfl, h1, ih j vs' h h2⟩
theorem Tr_nilBox {code : Code} {st : St} {K : Exit → St → Prop} (T : TypeId) (k : EK) (b j : Nat) {T0 : TypeId} {cells : List AV} {own : Bool} (hb : getK none st.boxes b = some ⟨T0, cells, own⟩) (hj : getK .any cells j = .nils) (hk : 0 < k.size)
    (h : lenK st.rows 0 fun n => avL (backSt.setAt cells j (.row n)) fun cells' => stF ⟨st.tmps, putAt none st.boxes b (some ⟨T0, cells', own⟩), putAt none st.rows n (some ⟨T, k, [], true⟩), st.ys, st.pin⟩ fun st => Tr P c code st K) : Tr P c code st K := by
  rw [lenK_eq, avL_eq, stF_eq, Nat.zero_add] at h
  intro e a w hh ht
  obtain ⟨h1, h2⟩ := addRow hh (fr := st.rows.length) (r := ⟨T, k, [], true⟩) (v := .slice none 0 0) (w' := w) (Below.refl _ _) (getK_length none st.rows _ (Nat.le_refl _)) rfl (.inl ⟨rfl, rfl⟩) (fun g hg => by simp [Value.ownBlock] at hg)
  have hR : R ⟨st.tmps, st.boxes, putAt none st.rows st.rows.length (some ⟨T, k, [], true⟩), st.ys, st.pin⟩ ⟨e.β, updV e.ρ st.rows.length (.slice none 0 0), e.M, e.D, e.l⟩ (.row st.rows.length) (.slice none 0 0) :=
    ⟨⟨⟨T, k, [], true⟩, by show getK none (putAt _ _ _ _) _ = _; rw [getK_putAt, if_pos rfl]⟩, by simp [updV]⟩
  obtain ⟨h3, h4⟩ := h1.recell (b := b) (cells := backSt.setAt cells j (.row st.rows.length)) hb (fun vs hv => RL_renil hR _ j vs hj hv)
  exact h _ a w h3 ⟨RL_keep h4 (RL_keep h2 ht.1), ht.2⟩
theorem Tr_nilTmp {code : Code} {st : St} {K : Exit → St → Prop} (T : TypeId) (k : EK) (t : Nat) (hj : getK .any st.tmps t = .nils) (hk : 0 < k.size)
    (h : lenK st.rows 0 fun n => stF ⟨backSt.setAt st.tmps t (.row n), st.boxes, putAt none st.rows n (some ⟨T, k, [], true⟩), st.ys, st.pin⟩ fun st => Tr P c code st K) : Tr P c code st K := by
  rw [lenK_eq, stF_eq, Nat.zero_add] at h
  intro e a w hh ht
  obtain ⟨h1, h2⟩ := addRow hh (fr := st.rows.length) (r := ⟨T, k, [], true⟩) (v := .slice none 0 0) (w' := w) (Below.refl _ _) (getK_length none st.rows _ (Nat.le_refl _)) rfl (.inl ⟨rfl, rfl⟩) (fun g hg => by simp [Value.ownBlock] at hg)
  have hR : R ⟨st.tmps, st.boxes, putAt none st.rows st.rows.length (some ⟨T, k, [], true⟩), st.ys, st.pin⟩ ⟨e.β, updV e.ρ st.rows.length (.slice none 0 0), e.M, e.D, e.l⟩ (.row st.rows.length) (.slice none 0 0) :=
    ⟨⟨⟨T, k, [], true⟩, by show getK none (putAt _ _ _ _) _ = _; rw [getK_putAt, if_pos rfl]⟩, by simp [updV]⟩
  exact h _ a w (HeapOK_tmps h1) ⟨RL_st (st := ⟨st.tmps, st.boxes, putAt none st.rows st.rows.length (some ⟨T, k, [], true⟩), st.ys, st.pin⟩) rfl rfl (RL_renil hR _ t _ hj (RL_keep h2 ht.1)), ht.2⟩
inductive Again {α : Type} (ok : α → Prop) (μ : α → Nat) (x : α) (st : St) (H : α → St) : Prop
  | mk (x' : α) (h1 : ok x') (h2 : μ x' < μ x) (h3 : Le st (H x'))
theorem Tr_loopH {α : Type} (ts : α → List (Nat × AV)) (bs : α → List (Nat × Option Box)) (rs : α → List (Nat × Option Row)) (ok : α → Prop) (μ : α → Nat) {body : Code} {st : St} {K : Exit → St → Prop} (x0 : α) (h0 : ok x0)
    (hle : Le st (headOf body st (ts x0) (bs x0) (rs x0)))
    (hround : ∀ x, ok x → Tr P c body (headOf body st (ts x) (bs x) (rs x)) (exitThen (fun st' => Again ok μ x st' (fun x' => headOf body st (ts x') (bs x') (rs x'))) K)) : Tr P c (.loop body) st K := by
  refine Tr_loop (fun x => headOf body st (ts x) (bs x) (rs x)) ok μ x0 h0 hle (fun x hx e a w hh ht => ?_)
  refine wpIn_mono (hround x hx e a w hh ht) (fun ex a' w' hq => QK_mono (fun ex' st' h => ?_) hq)
  cases ex' with
  | normal => obtain ⟨x', h1, h2, h3⟩ := h; exact ⟨x', h1, h2, h3⟩
  | _ => exact h
end
end Go.X

namespace Go.X
open Go

theorem wrap64 {x : Int} (h : -9223372036854775808 ≤ x) (h' : x ≤ 9223372036854775807) : IntKind.i64.wrap x = x := by
  have e1 : (2 : Int) ^ (64 : Nat) = 18446744073709551616 := by decide
  have e2 : (2 : Int) ^ (64 - 1 : Nat) = 9223372036854775808 := by decide
  unfold IntKind.wrap
  simp only [IntKind.signed, IntKind.bits, e1, e2]
  by_cases h2 : x % 18446744073709551616 ≥ 9223372036854775808
  · rw [if_pos (by simp [h2])]; omega
  · rw [if_neg (by simp; omega)]; omega
theorem bn {b : Bool} (h : (!b) = false) : b = true := by cases b <;> simp_all
theorem bt {b : Bool} (h : (!b) = true) : b = false := by cases b <;> simp_all
theorem tdiv9 {n : Int} (h : 0 ≤ n) : n.tdiv 9 = n / 9 := Int.tdiv_eq_ediv_of_nonneg h
theorem tmod9 {n : Int} (h : 0 ≤ n) : n.tmod 9 = n % 9 := Int.tmod_eq_emod_of_nonneg h

def spIsSquare (n : Int) : Bool := decide (0 ≤ n) && decide (n < 90)
theorem isSquare_iff {n : Int} : spIsSquare n = true ↔ 0 ≤ n ∧ n < 90 := by simp [spIsSquare]
def spRank (n : Int) : Int := if spIsSquare n then n / 9 else -1
def spFile (n : Int) : Int := if spIsSquare n then n % 9 else -1
def spSquare (f r : Int) : Int := if decide (0 ≤ f) && decide (f < 9) && decide (0 ≤ r) && decide (r < 10) then r * 9 + f else -1
def spIdxB (l : List UInt8) (c : Int) : Int := Lib.indexByte l c.toNat.toUInt8
def spSide (c : Int) : Int := if 0 ≤ spIdxB [75, 65, 66, 78, 82, 67, 80] c then 0 else if 0 ≤ spIdxB [107, 97, 98, 110, 114, 99, 112] c then 1 else -1
def spIsCell (c : Int) : Bool := (c == 46) || decide (0 ≤ spSide c)
def spKind (c : Int) : Int := if spSide c = 1 then IntKind.u8.wrap (c - 32) else if spSide c = 0 then c else 0
def spBad (r : Nat) : Bool := decide ((122 : Int) < r) || !spIsCell (IntKind.u8.wrap r)
def spIs (p : ByteArray) : Bool := (p.size : Int) == 90 && decide (Lib.idxFunc spBad true p < 0)
theorem spIs_size {p : ByteArray} (h : spIs p = true) : p.size = 90 := by simp [spIs] at h; omega
end Go.X

namespace Go.X
open Go

abbrev BS := Nat × Nat
def spOne (n : Int) : BS := if decide (n < 0) || decide (90 ≤ n) then (0, 0) else if n < 45 then (2 ^ n.toNat, 0) else (0, 2 ^ (n - 45).toNat)
def spPlain (a : BS) : BS := (a.1 &&& 35184372088831, a.2 &&& 35184372088831)
def spOr (a b : BS) : BS := spPlain (a.1 ||| b.1, a.2 ||| b.2)
def spWith (a : BS) (n : Int) : BS := spOr a (spOne n)
def bit (s : BS) (n : Nat) : Bool := if n < 45 then s.1.testBit n else s.2.testBit (n - 45)
def spList (s : BS) : List Int := ((List.range 90).filter (bit s)).map Int.ofNat

theorem m45 : 35184372088831 = 2 ^ 45 - 1 := by decide
theorem bit_plain (s : BS) {n : Nat} (h : n < 90) : bit (spPlain s) n = bit s n := by
  unfold bit spPlain
  split
  · rw [Nat.testBit_and, m45, Nat.testBit_two_pow_sub_one]; simp; omega
  · rw [Nat.testBit_and, m45, Nat.testBit_two_pow_sub_one]; simp; omega
theorem spOne_lo {n : Nat} (h : n < 45) : spOne n = (2 ^ n, 0) := by
  have h1 : (decide ((n : Int) < 0) || decide (90 ≤ (n : Int))) = false := by rw [Bool.or_eq_false_iff]; exact ⟨decide_eq_false (by omega), decide_eq_false (by omega)⟩
  unfold spOne
  rw [h1, if_neg (by simp), if_pos (by omega), Int.toNat_natCast]
theorem spOne_hi {n : Nat} (h : 45 ≤ n) (h' : n < 90) : spOne n = (0, 2 ^ (n - 45)) := by
  have h1 : (decide ((n : Int) < 0) || decide (90 ≤ (n : Int))) = false := by rw [Bool.or_eq_false_iff]; exact ⟨decide_eq_false (by omega), decide_eq_false (by omega)⟩
  have h2 : ((n : Int) - 45).toNat = n - 45 := by omega
  unfold spOne
  rw [h1, if_neg (by simp), if_neg (by omega), h2]
theorem bit_one (n k : Nat) (hn : n < 90) (hk : k < 90) : bit (spOne n) k = (k == n) := by
  unfold bit
  rcases Nat.lt_or_ge n 45 with h | h
  · rw [spOne_lo h]
    split
    · simp only [Nat.testBit_two_pow]
      rw [Bool.eq_iff_iff, decide_eq_true_iff, beq_iff_eq]; exact eq_comm
    · simp only [Nat.zero_testBit]
      exact (beq_eq_false_iff_ne.2 (by omega)).symm
  · rw [spOne_hi h hn]
    split
    · simp only [Nat.zero_testBit]
      exact (beq_eq_false_iff_ne.2 (by omega)).symm
    · simp only [Nat.testBit_two_pow]
      rw [Bool.eq_iff_iff, decide_eq_true_iff, beq_iff_eq]; omega
theorem bit_or (a b : BS) (k : Nat) (hk : k < 90) : bit (spOr a b) k = (bit a k || bit b k) := by
  unfold spOr
  rw [bit_plain _ hk]
  unfold bit
  split <;> simp
theorem spList_zero : spList (0, 0) = [] := by
  unfold spList
  rw [List.filter_eq_nil_iff.2]
  · rfl
  · intro k _; unfold bit; split <;> simp
end Go.X

namespace Go.X
open Go

def LB {α : Type} (l : List α) : Prop := l.length ≤ 2000000000
theorem wrapN {i : Nat} (h : i ≤ 4000000000) : IntKind.i64.wrap (Int.ofNat i + 1) = Int.ofNat (i + 1) := by
  rw [wrap64] <;> simp <;> omega
theorem beqT {a b : Int} (h : (a == b) = true) : a = b := by simpa using h
theorem beqF {a b : Int} (h : (a == b) = false) : a ≠ b := by simpa using h
theorem bneT {a b : Int} (h : (a != b) = true) : a ≠ b := by simpa using h
theorem bneF {a b : Int} (h : (a != b) = false) : a = b := by simpa using h
def spIdx (f : Int → Bool) (l : List Int) : Int := match l.findIdx? f with | some i => Int.ofNat i | none => -1
theorem idx_none {f : Int → Bool} {l : List Int} (h : ∀ x ∈ l.take l.length, f x = false) : spIdx f l = -1 := by
  have : l.findIdx? f = none := by rw [List.findIdx?_eq_none_iff]; simpa using h
  rw [spIdx, this]
theorem idx_some {f : Int → Bool} {l : List Int} {i : Nat} (hi : i < l.length) (h : ∀ x ∈ l.take i, f x = false) (hx : f (l.getD i 0) = true) : spIdx f l = Int.ofNat i := by
  have e : l.getD i 0 = l[i] := by simp [List.getD_eq_getElem?_getD, List.getElem?_eq_getElem hi]
  have : l.findIdx? f = some i := by
    rw [List.findIdx?_eq_some_iff_getElem]
    refine ⟨hi, by rw [← e]; exact hx, fun j hj => ?_⟩
    have := h l[j] (by rw [List.mem_take_iff_getElem]; exact ⟨j, by omega, rfl⟩)
    simp [this]
  rw [spIdx, this]
theorem take_next {f : Int → Bool} {l : List Int} {i : Nat} (hi : i < l.length) (h : ∀ x ∈ l.take i, f x = false) (hx : f (l.getD i 0) = false) : ∀ x ∈ l.take (i + 1), f x = false := by
  have e : l.getD i 0 = l[i] := by simp [List.getD_eq_getElem?_getD, List.getElem?_eq_getElem hi]
  intro x hm
  rw [List.take_succ_eq_append_getElem hi, List.mem_append, List.mem_singleton] at hm
  rcases hm with hm | hm
  · exact h x hm
  · rw [hm, ← e]; exact hx
theorem idx_spec (f : Int → Bool) (l : List Int) : (spIdx f l = -1 ∧ l.any f = false) ∨ ∃ i : Nat, i < l.length ∧ spIdx f l = Int.ofNat i ∧ (∀ x ∈ l.take i, f x = false) ∧ f (l.getD i 0) = true := by
  cases h : l.findIdx? f with
  | none =>
    left
    refine ⟨by rw [spIdx, h], ?_⟩
    rw [List.findIdx?_eq_none_iff] at h
    simpa using h
  | some i =>
    right
    rw [List.findIdx?_eq_some_iff_getElem] at h
    obtain ⟨hi, h1, h2⟩ := h
    have e : l.getD i 0 = l[i] := by simp [List.getD_eq_getElem?_getD, List.getElem?_eq_getElem hi]
    refine ⟨i, hi, idx_some hi ?_ (by rw [e]; exact h1), ?_, by rw [e]; exact h1⟩
    all_goals
      intro x hx
      rw [List.mem_take_iff_getElem] at hx
      obtain ⟨j, hj, rfl⟩ := hx
      have := h2 j (by omega)
      simpa using this
structure DelInv (f : Int → Bool) (l : List Int) (w j : Nat) (row : List Int) : Prop where
  lt : w < j
  le : j ≤ l.length
  len : row.length = l.length
  kept : row.take w = (l.take j).filter (fun x => !f x)
  rest : row.drop j = l.drop j
theorem DelInv.start {f : Int → Bool} {l : List Int} {w : Nat} (hw : w < l.length) (h : ∀ x ∈ l.take w, f x = false) (hx : f (l.getD w 0) = true) : DelInv f l w (w + 1) l := by
  have e : l.getD w 0 = l[w] := by simp [List.getD_eq_getElem?_getD, List.getElem?_eq_getElem hw]
  refine ⟨by omega, by omega, rfl, ?_, rfl⟩
  rw [List.take_succ_eq_append_getElem hw, List.filter_append, List.filter_eq_self.2 (fun x hm => by simp [h x hm])]
  rw [e] at hx
  simp [hx]
theorem DelInv.get {f : Int → Bool} {l : List Int} {w j : Nat} {row : List Int} (h : DelInv f l w j row) (hj : j < l.length) : row.getD j 0 = l[j] := by
  have h1 : row.drop j = l.drop j := h.rest
  have h2 := congrArg (fun m => m[0]?) h1
  simp only [List.getElem?_drop, Nat.add_zero] at h2
  rw [List.getD_eq_getElem?_getD, h2, List.getElem?_eq_getElem hj]; rfl
theorem DelInv.del {f : Int → Bool} {l : List Int} {w j : Nat} {row : List Int} (h : DelInv f l w j row) (hj : j < l.length) (hx' : (!f (row.getD j 0)) = false) : DelInv f l w (j + 1) row := by
  have hx : f (row.getD j 0) = true := by simpa using hx'
  rw [h.get hj] at hx
  refine ⟨by have := h.lt; omega, by omega, h.len, ?_, ?_⟩
  · rw [h.kept, List.take_succ_eq_append_getElem hj, List.filter_append]; simp [hx]
  · have := congrArg (List.drop 1) h.rest
    simpa [List.drop_drop, Nat.add_comm] using this
theorem DelInv.keep {f : Int → Bool} {l : List Int} {w j : Nat} {row : List Int} (h : DelInv f l w j row) (hj : j < l.length) (hx' : (!f (row.getD j 0)) = true) : DelInv f l (w + 1) (j + 1) (row.set w (row.getD j 0)) := by
  have hx : f (row.getD j 0) = false := by simpa using hx'
  have hlt := h.lt
  have hlen := h.len
  rw [h.get hj] at hx ⊢
  refine ⟨by omega, by omega, by simpa using hlen, ?_, ?_⟩
  · rw [List.take_succ_eq_append_getElem (by simp; omega), List.take_set_of_le (by omega), h.kept, List.take_succ_eq_append_getElem hj, List.filter_append]
    simp [hx]
  · rw [List.drop_set_of_lt (by omega)]
    have := congrArg (List.drop 1) h.rest
    simpa [List.drop_drop, Nat.add_comm] using this
theorem DelInv.done {f : Int → Bool} {l : List Int} {w j : Nat} {row : List Int} (h : DelInv f l w j row) (hj : ¬ j < l.length) : row.take w = l.filter (fun x => !f x) := by
  have := h.le
  rw [h.kept, List.take_of_length_le (by omega)]
def cstep (acc : List Int) (x : Int) : List Int := if acc.getLast? = some x then acc else acc ++ [x]
def spCompact (l : List Int) : List Int := l.foldl cstep []
theorem getD_getElem {l : List Int} {i : Nat} (hi : i < l.length) : l.getD i 0 = l[i] := by simp [List.getD_eq_getElem?_getD, List.getElem?_eq_getElem hi]
theorem compact_next {l : List Int} {j : Nat} (hj : j < l.length) : spCompact (l.take (j + 1)) = cstep (spCompact (l.take j)) l[j] := by
  unfold spCompact
  rw [List.take_succ_eq_append_getElem hj, List.foldl_append]; rfl
theorem compact_last {l : List Int} {j : Nat} (hj : j < l.length) : (spCompact (l.take (j + 1))).getLast? = some l[j] := by
  rw [compact_next hj]
  unfold cstep
  split
  · assumption
  · simp
theorem compact_same {l : List Int} {j : Nat} (hj : j + 1 < l.length) (he : l[j + 1] = l[j]) : spCompact (l.take (j + 2)) = spCompact (l.take (j + 1)) := by
  rw [compact_next hj, cstep, if_pos]
  rw [compact_last (by omega), he]
theorem compact_new {l : List Int} {j : Nat} (hj : j + 1 < l.length) (he : l[j + 1] ≠ l[j]) : spCompact (l.take (j + 2)) = spCompact (l.take (j + 1)) ++ [l[j + 1]] := by
  rw [compact_next hj, cstep, if_neg]
  rw [compact_last (by omega)]
  intro h; exact he (Option.some.inj h).symm
structure CmpInv (l : List Int) (w j : Nat) (row : List Int) : Prop where
  lt : w + 1 ≤ j
  le : j ≤ l.length
  len : row.length = l.length
  kept : row.take w = spCompact (l.take j)
  rest : row.drop (j - 1) = l.drop (j - 1)
theorem CmpInv.get {l : List Int} {w j : Nat} {row : List Int} (h : CmpInv l w j row) (i : Nat) (hi : j - 1 ≤ i) (hil : i < l.length) : row.getD i 0 = l[i] := by
  have h2 := congrArg (fun m => m[i - (j - 1)]?) h.rest
  simp only [List.getElem?_drop] at h2
  rw [show j - 1 + (i - (j - 1)) = i by omega] at h2
  rw [List.getD_eq_getElem?_getD, h2, List.getElem?_eq_getElem hil]; rfl
theorem CmpInv.start {l : List Int} {k : Nat} (hk : 1 ≤ k) (hkl : k < l.length) (h : spCompact (l.take k) = l.take k) (he : l.getD k 0 = l.getD (k - 1) 0) : CmpInv l k (k + 1) l := by
  refine ⟨by omega, by omega, rfl, ?_, rfl⟩
  obtain ⟨m, rfl⟩ : ∃ m, k = m + 1 := ⟨k - 1, by omega⟩
  rw [getD_getElem hkl, getD_getElem (by omega)] at he
  rw [compact_same hkl he, h]
theorem CmpInv.same {l : List Int} {w j : Nat} {row : List Int} (h : CmpInv l w j row) (hj : j < l.length) (he : row.getD j 0 = row.getD (j - 1) 0) : CmpInv l w (j + 1) row := by
  have hlt := h.lt
  rw [h.get j (by omega) hj, h.get (j - 1) (by omega) (by omega)] at he
  obtain ⟨m, rfl⟩ : ∃ m, j = m + 1 := ⟨j - 1, by omega⟩
  refine ⟨by omega, by omega, h.len, ?_, ?_⟩
  · rw [compact_same hj he]; exact h.kept
  · have := congrArg (List.drop 1) h.rest
    simpa [List.drop_drop, Nat.add_comm] using this
theorem CmpInv.new {l : List Int} {w j : Nat} {row : List Int} (h : CmpInv l w j row) (hj : j < l.length) (he : row.getD j 0 ≠ row.getD (j - 1) 0) : CmpInv l (w + 1) (j + 1) (row.set w (row.getD j 0)) := by
  have hlt := h.lt
  have hlen := h.len
  have hg := h.get j (by omega) hj
  rw [hg, h.get (j - 1) (by omega) (by omega)] at he
  rw [hg]
  obtain ⟨m, rfl⟩ : ∃ m, j = m + 1 := ⟨j - 1, by omega⟩
  refine ⟨by omega, by omega, by simpa using hlen, ?_, ?_⟩
  · rw [compact_new hj he, List.take_succ_eq_append_getElem (by simp; omega), List.take_set_of_le (by omega), h.kept]
    simp
  · rw [List.drop_set_of_lt (by omega)]
    have := congrArg (List.drop 1) h.rest
    simpa [List.drop_drop, Nat.add_comm] using this
theorem CmpInv.done {l : List Int} {w j : Nat} {row : List Int} (h : CmpInv l w j row) (hj : ¬ j < l.length) : row.take w = spCompact l := by
  have := h.le
  rw [h.kept, List.take_of_length_le (by omega)]
structure S90 (p : ByteArray) : Prop where
  is : p.size = 90
  u : True
  v : True
structure NE (l : List Int) (p : ByteArray) : Prop where
  is : l = [] ∨ p.size = 90
  u : True
  v : True
theorem NE.of {l : List Int} {p : ByteArray} {i : Nat} (h : NE l p) (hi : i < l.length) : S90 p := by
  rcases h.is with e | e
  · subst e; simp at hi
  · exact ⟨e, trivial, trivial⟩
noncomputable def veil {α : Type} (x : α) : α := Classical.choose (⟨x, rfl⟩ : ∃ y, y = x)
theorem veil_eq {α : Type} (x : α) : veil x = x := Classical.choose_spec (⟨x, rfl⟩ : ∃ y, y = x)
end Go.X

namespace Go.X
open Go
structure SM (a : Int) : Prop where
  lo : -1000 ≤ a
  hi : a ≤ 1000
  u : True
theorem SM.of {a : Int} (h : -1000 ≤ a) (h' : a ≤ 1000) : SM a := ⟨h, h', trivial⟩
structure Dir (a b : Int) : Prop where
  is : (a = 1 ∧ b = 0) ∨ (a = -1 ∧ b = 0) ∨ (a = 0 ∧ b = 1) ∨ (a = 0 ∧ b = -1)
  u : True
  v : True

theorem file_bd (n : Int) : -1 ≤ spFile n ∧ spFile n ≤ 8 := by
  unfold spFile; split
  · omega
  · omega
theorem rank_bd (n : Int) : -1 ≤ spRank n ∧ spRank n ≤ 9 := by
  unfold spRank; split
  · rename_i h; have := isSquare_iff.1 h; omega
  · omega
def spStep (fr a b : Int) : Int := spSquare (spFile fr + a) (spRank fr + b)
theorem SM.neg {a : Int} (ha : SM a) : SM (-a) := by
  have h3 := ha.lo; have h4 := ha.hi
  exact .of (by omega) (by omega)
def ray (fr a b : Int) : Nat → Int → List Int
  | 0, _ => []
  | k + 1, i => if spIsSquare (spStep fr (i * a) (i * b)) then spStep fr (i * a) (i * b) :: ray fr a b k (i + 1) else []
def way (fr a b : Int) : List Int := ray fr a b 12 1
theorem dir_stop {fr a b i : Int} (hd : Dir a b) (hi : 10 ≤ i) : spIsSquare (spStep fr (i * a) (i * b)) = false := by
  have h1 := file_bd fr
  have h2 := rank_bd fr
  have : spStep fr (i * a) (i * b) = -1 := by
    unfold spStep spSquare
    rw [if_neg]
    simp only [Bool.and_eq_true, decide_eq_true_eq, not_and, Int.not_le, Int.not_lt]
    rcases hd.is with ⟨rfl, rfl⟩ | ⟨rfl, rfl⟩ | ⟨rfl, rfl⟩ | ⟨rfl, rfl⟩
    · intro h; omega
    · intro h; omega
    · rintro ⟨h, h3⟩
      have : spFile fr ≠ -1 := by omega
      have : spRank fr ≠ -1 := by
        intro h4
        apply this
        unfold spRank at h4; unfold spFile
        split at h4
        · rename_i h5; have := isSquare_iff.1 h5; omega
        · rename_i h5; rw [if_neg h5]
      omega
    · intro h; omega
  rw [this]; rfl
structure Scan (fr a b : Int) (d : List Int) : Prop where
  le : d.length ≤ 9
  eq : way fr a b = d ++ ray fr a b (12 - d.length) (Int.ofNat (d.length + 1))
theorem Scan.start {fr a b : Int} : Scan fr a b [] := ⟨by simp, rfl⟩
theorem Scan.next {fr a b : Int} {d : List Int} (h : Scan fr a b d) (hd : Dir a b) (hs : spIsSquare (spStep fr (Int.ofNat (d.length + 1) * a) (Int.ofNat (d.length + 1) * b)) = true) :
    Scan fr a b (d ++ [spStep fr (Int.ofNat (d.length + 1) * a) (Int.ofNat (d.length + 1) * b)]) := by
  have hle := h.le
  have h9 : d.length ≤ 8 := by
    by_cases h9 : d.length ≤ 8
    · exact h9
    · rw [dir_stop hd (by simp; omega)] at hs; cases hs
  refine ⟨by simp; omega, ?_⟩
  have e := h.eq
  rw [show 12 - d.length = (12 - (d.length + 1)) + 1 by omega, ray, if_pos hs] at e
  rw [e]
  simp [List.append_assoc]
end Go.X

namespace Go.X
open Go

def spOk (n side : Int) : Bool := decide (0 ≤ n) && decide (n < 90) && (side == 0 || side == 1)
theorem ok_bad {n side : Int} (h : (decide (n < 0) || decide (n > 89) || side != 0 && side != 1) = true) : spOk n side = false := by
  simp [spOk] at *; omega
theorem ok_good {n side : Int} (h : (decide (n < 0) || decide (n > 89) || side != 0 && side != 1) = false) : spOk n side = true := by
  simp [spOk] at *; omega
def spTurned (n side : Int) : Int := if side = 1 then 89 - n else n
def spSF (n side : Int) : Int := if spOk n side then spTurned n side % 9 else 0
def spSR (n side : Int) : Int := if spOk n side then spTurned n side / 9 else 0
def spPal (f r : Int) : Bool := decide (3 ≤ f) && decide (f ≤ 5) && decide (r ≤ 2)
def spOvr (r : Int) : Bool := decide (5 ≤ r)
def spAdv (f r : Int) : Bool := spPal f r && ((IntKind.i64.wrap (f + r)).tmod 2 == 1)
def spEle (f r : Int) : Bool := decide (r ≤ 4) && (r.tmod 2 == 0) && (f.tmod 4 == IntKind.i64.wrap (2 - r.tmod 4))
def spPwn (f r : Int) : Bool := spOvr r || (decide (3 ≤ r) && (f.tmod 2 == 0))
def spMay (c n : Int) : Bool :=
  if spOk n (spSide c) then
    (if spKind c = 75 then spPal (spSF n (spSide c)) (spSR n (spSide c))
    else if spKind c = 65 then spAdv (spSF n (spSide c)) (spSR n (spSide c))
    else if spKind c = 66 then spEle (spSF n (spSide c)) (spSR n (spSide c))
    else if spKind c = 80 then spPwn (spSF n (spSide c)) (spSR n (spSide c))
    else true)
  else false
end Go.X

namespace Go.X
open Go

def spUpTo (p : ByteArray) (f : Int → Bool) : Nat → BS
  | 0 => (0, 0)
  | n + 1 => if f (byteAt p n) then spWith (spUpTo p f n) n else spUpTo p f n
def spSet (p : ByteArray) (f : Int → Bool) : BS := if spIs p then spUpTo p f 90 else (0, 0)
end Go.X

namespace Go.X
open Go

theorem side_bd (c : Int) : -1 ≤ spSide c ∧ spSide c ≤ 1 := by
  unfold spSide; split
  · omega
  · split <;> omega
end Go.X

namespace Go.X
open Go.RowKit Go.Sort

end Go.X

namespace Go.X
open Go
end Go.X

namespace Go.X
open Go
def spFind (p : ByteArray) (c : Int) : List Int := spList (spSet p (· == c))
end Go.X

namespace Go.X
open Go
end Go.X

namespace Go.X
open Go.RowKit Go.Sort

def joinS (l : List ByteArray) (sep : ByteArray) : ByteArray := ⟨(Lib.join (l.map (·.data.toList)) sep.data.toList).toArray⟩
structure LJ (l : List ByteArray) (sep : ByteArray) : Prop where
  len : l.length ≤ 140737488355328
  sz : (Lib.join (l.map (·.data.toList)) sep.data.toList).length ≤ 140737488355328
  v : True
def cJoin : Con
  | [.row _ ⟨_, .str, l, true⟩, .a (.s sep)] => some ⟨[LJ l sep], .a (.s (joinS l sep)), [], []⟩
  | _ => none
theorem valsS (l : List ByteArray) : valsOf .str l = l.map Value.string := by
  unfold valsOf
  induction l with
  | nil => rfl
  | cons x l ih => simp only [List.flatMap_cons, EK.vals, List.map_cons, List.singleton_append]; rw [← ih]; rfl
theorem allRes2 {st : St} {avs : List AV} {r1 r2 : RV} (h : allRes (resolve st) avs = some [r1, r2]) : ∃ v u, avs = [v, u] ∧ resolve st v = some r1 ∧ resolve st u = some r2 := by
  cases avs with
  | nil => simp [allRes] at h
  | cons v l =>
    cases l with
    | nil =>
      simp only [allRes] at h
      split at h <;> simp at h
    | cons u l =>
      simp only [allRes] at h
      split at h
      · rename_i r hr
        split at h
        · rename_i m hm
          cases h
          split at hm
          · rename_i r' hr'
            split at hm
            · rename_i m' hm'
              cases hm
              cases l with
              | nil => exact ⟨v, u, rfl, hr, hr'⟩
              | cons y l =>
                simp only [allRes] at hm'
                split at hm'
                · split at hm' <;> simp at hm'
                · cases hm'
            · cases hm
          · cases hm
        · cases h
      · cases h
theorem con_join {P : Program} {G : Nat → World → Prop} {f : FuncId} {fn : Func} (hf : P.funcs[f]? = some fn) (hb : fn.body.isSome = true) (hname : (fn.name == "runtime.NumGoroutine") = false)
    (hs : ∀ (bk o c : Nat) (xs : List ByteArray) (sep : ByteArray) (w : World), (∀ (j : Nat) x, xs[j]? = some x → w.cell? ⟨bk, o + j, none⟩ = some (.string x)) → bk < w.heap.size → xs.length ≤ 140737488355328 → xs.length ≤ c → (Lib.join (xs.map (·.data.toList)) sep.data.toList).length ≤ 140737488355328 →
      Calls P f #[.slice (some ⟨bk, o, none⟩) xs.length c, .string sep] w fun e w' => e = .returned (.string (joinS xs sep)) ∧ Below w.heap.size w w')
    (hn : ∀ (p : Option Addr) (cap : Nat) (sep : ByteArray) (w : World), Calls P f #[.slice p 0 cap, .string sep] w fun e w' => e = .returned (.string ⟨#[]⟩) ∧ w' = w) : ConOK P G f cJoin := by
  intro c e st w avs rvs cr vals fb fr hG hh hres hargs hcr hpre _ _
  refine ⟨⟨fn, hf, hb, hname⟩, ?_⟩
  unfold cJoin at hcr
  split at hcr
  · rename_i id T' l sep
    cases hcr
    have hlj := hpre _ (List.mem_singleton.2 rfl)
    obtain ⟨v, u, rfl, h1, h2⟩ := allRes2 hres
    obtain ⟨x, xs, rfl, hx, hxs⟩ := hargs
    obtain ⟨y, ys, rfl, hy, hys⟩ := hxs
    simp only [RL] at hys
    subst hys
    have hy' := valRV_R (u := .string sep) h2 rfl hy
    subst hy'
    unfold resolve at h1
    cases v with
    | row id' =>
      simp only [resolveF] at h1
      split at h1
      · rename_i r hr
        simp only [Option.some.injEq, RV.row.injEq] at h1
        obtain ⟨rfl, rfl⟩ := h1
        obtain ⟨_, rfl⟩ := hx
        obtain ⟨hpos, hown, hmine⟩ := hh.row _ _ hr
        rcases hown with ⟨hv, hl0⟩ | ⟨g, cap, cur, fz, hv, hgg, hfz, hnc, hcm, hcs, htake⟩
        · have hl0' : l = [] := hl0
          subst hl0'
          rw [hv]
          refine (hn none 0 sep w).mono ?_
          rintro en w' ⟨rfl, rfl⟩
          exact ⟨_, e, rfl, hh, pres_refl, rfl⟩
        · rw [hv]
          have hglt : g < w.heap.size := (Array.getElem?_eq_some_iff.1 hgg).1
          have htake' : cur.toList.take l.length = l.map Value.string := by
            have := htake
            rw [valsS] at this
            simpa [EK.size] using this
          refine (hs g 0 cap l sep w ?_ hglt hlj.len hnc hlj.sz).mono ?_
          · intro j x hj
            have hjl := (List.getElem?_eq_some_iff.1 hj).1
            have h3 := congrArg (fun m => m[j]?) htake'
            simp only [List.getElem?_take, if_pos hjl, List.getElem?_map, hj, Option.map_some, Array.getElem?_toList] at h3
            unfold World.cell?
            simp only [hgg, Nat.zero_add]
            rw [h3]; rfl
          · rintro en w' ⟨rfl, hbl⟩
            exact ⟨_, e, rfl, hh.moved hbl, pres_refl, rfl⟩
      · cases h1
    | _ =>
      simp only [resolveF] at h1
      first
        | (cases h1; done)
        | (split at h1 <;> first | (cases h1; done) | (split at h1 <;> cases h1))
  · cases hcr
end Go.X

namespace Go.X
open Go.RowKit

section
variable {P : Program} {c : Ctx} {st : St} {e : Env} {a : Act} {w w' : World}
theorem HeapOK.kill1 {id : Nat} {r : Row} (hh : HeapOK c e st w) (hr : getK none st.rows id = some r) (ho : r.own = true) (hg : w.grownBy w' (e.ρ id).ownBlock) :
    HeapOK c e ⟨mapK (sweep [id]) st.tmps, mapK (sweepBox [id]) st.boxes, killOne st.rows id, st.ys, mapK (sweep [id]) st.pin⟩ w' ∧
    Pres st e ⟨mapK (sweep [id]) st.tmps, mapK (sweepBox [id]) st.boxes, killOne st.rows id, st.ys, mapK (sweep [id]) st.pin⟩ e [id] := by
  have hbox : ∀ i, getK none (mapK (sweepBox [id]) st.boxes) i = sweepBox [id] (getK none st.boxes i) := fun i => getK_mapK (sweepBox [id]) none none rfl st.boxes i
  have hp : Pres st e ⟨mapK (sweep [id]) st.tmps, mapK (sweepBox [id]) st.boxes, killOne st.rows id, st.ys, mapK (sweep [id]) st.pin⟩ e [id] := by
    refine pres_of rfl rfl (fun i b hi => ⟨?_, rfl⟩) (fun i q hne hq => ?_)
    · show ∃ bx', getK none (mapK (sweepBox [id]) st.boxes) i = some bx'
      rw [hbox, hi]; exact ⟨_, rfl⟩
    · have hne' : i ≠ id := fun h => hne (by simp [h])
      exact ⟨⟨q, by rw [getK_killOne, if_neg hne']; exact hq, rfl, Nat.le_refl _⟩, rfl⟩
  have hblk : blkR e st id = (e.ρ id).ownBlock := by simp [blkR, hr, ho]
  have hold : ∀ k, k < w.heap.size → blkR e st id ≠ some k → w'.heap[k]? = w.heap[k]? := fun k h1 h2 => hg.block k h1 (fun h => h2 (by rw [hblk]; exact h.symm))
  have hnot : ∀ k, blkR e st id = some k → Mine c e.M k := fun k h => (hh.row_lt hr ho (by rw [← hblk]; exact h)).1
  have hBB : ∀ i g, blkB e ⟨mapK (sweep [id]) st.tmps, mapK (sweepBox [id]) st.boxes, killOne st.rows id, st.ys, mapK (sweep [id]) st.pin⟩ i = some g → blkB e st i = some g := by
    intro i g h
    simp only [blkB, hbox] at h ⊢
    cases hi : getK none st.boxes i with
    | none => rw [hi] at h; cases h
    | some b => rw [hi] at h; exact h
  have hRR : ∀ i g, blkR e ⟨mapK (sweep [id]) st.tmps, mapK (sweepBox [id]) st.boxes, killOne st.rows id, st.ys, mapK (sweep [id]) st.pin⟩ i = some g → blkR e st i = some g := by
    intro i g h
    simp only [blkR, getK_killOne] at h ⊢
    by_cases hi : i = id
    · rw [if_pos hi] at h; cases h
    · rw [if_neg hi] at h; exact h
  refine ⟨⟨⟨hg.os.trans hh.frame.os, hg.tape.trans hh.frame.tape, hg.output.trans hh.frame.output, Nat.le_trans hh.frame.size hg.size, fun k h3 h4 => ?_⟩, fun i b hi => ?_, fun i q hq => ?_, fun i j g h3 h4 => hh.injB i j g (hBB i g h3) (hBB j g h4), fun i j g h3 h4 => hh.injR i j g (hRR i g h3) (hRR j g h4), fun i j g h3 h4 => hh.apart i j g (hBB i g h3) (hRR j g h4), show c.J st.ys e.M _ from c.Jst _ _ _ _ hh.out hg.os hg.tape hg.output hg.size (fun k hk => hold k (hh.m_lt hk) (fun h => (hnot k h).2 hk)), fun D hD => (hold D (lt_of_heap (hh.defd D hD)) (fun h => by obtain ⟨cs, T, fz, h1⟩ := hh.blkR_cells h; rw [hh.defd D hD] at h1; cases h1)).trans (hh.defd D hD), hh.defm, hh.mwr, hh.yl, hh.nd, RL_mono hp.keep hh.pin⟩, hp⟩
  · rw [hold k (by have := hh.base_le; omega) (fun h => fixed_ne ⟨h3, h4, (hnot k h).2⟩ (hnot k h))]
    exact hh.frame.block k h3 h4
  · rw [hbox] at hi
    cases hb : getK none st.boxes i with
    | none => rw [hb] at hi; cases hi
    | some b0 =>
      rw [hb] at hi
      simp only [sweepBox, Option.some.injEq] at hi
      subst hi
      obtain ⟨⟨qs, h3, h4, h5⟩, h6⟩ := hh.box i b0 hb
      refine ⟨⟨qs, ?_, RL_mono hp.keep h4, h5⟩, h6⟩
      rw [← h3]
      refine hold _ (hh.box_lt hb) (fun h => ?_)
      by_cases hko : b0.own = true
      · exact hh.apart i id (e.β i) (by simp [blkB, hb, hko]) h
      · simp only [hko] at h6
        exact fixed_ne h6 (hnot _ h)
  · rw [getK_killOne] at hq
    by_cases hi : i = id
    · rw [if_pos hi] at hq; cases hq
    · rw [if_neg hi] at hq
      obtain ⟨h3, h4⟩ := hh.row i q hq
      refine ⟨h3, ?_⟩
      cases hro : q.own
      · rw [hro] at h4; exact h4
      · rw [hro] at h4
        exact ⟨h4.1.same (fun g' hg' hlt => hold _ hlt (fun h => hi (hh.injR i id g' (by simp [blkR, hq, hro, hg']) h))), h4.2⟩

structure BYL (l : List Int) : Prop where
  b : ∀ n ∈ l, 0 ≤ n ∧ n < 256
  u : True
  v : True
def u8L (l : List Int) : List UInt8 := l.map fun n => UInt8.ofNat n.toNat
theorem byteCells_u8 {l : List Int} (h : BYL l) : valsOf (.int .u8) l = Lib.byteCells (u8L l) := by
  rw [valsOf_u8]
  unfold Lib.byteCells u8L
  rw [List.map_map]
  refine List.map_congr_left fun n hn => ?_
  obtain ⟨h0, h1⟩ := h.b n hn
  show Value.int .u8 n = Value.int .u8 (((UInt8.ofNat n.toNat).toNat : Nat) : Int)
  rw [UInt8.toNat_ofNat']
  congr 1
  show n = ((n.toNat % 256 : Nat) : Int)
  omega
theorem bytesOf_u8 (l : List Int) : bytesOf l = ⟨(u8L l).toArray⟩ := by
  have key : ∀ (l : List Int) (acc : ByteArray), (l.foldl (fun r n => r.push (UInt8.ofNat n.toNat)) acc).data.toList = acc.data.toList ++ u8L l := by
    intro l
    induction l with
    | nil => intro acc; simp [u8L]
    | cons n l ih => intro acc; rw [List.foldl_cons, ih]; simp [u8L, ByteArray.push]
  apply ByteArray.ext
  apply Array.toList_inj.1
  have := key l ByteArray.empty
  unfold bytesOf
  rw [this]; rfl
def StrLaw (P : Program) (f TB T5 : Nat) : Prop := ∀ (b : Nat) (p v : Value) (l : List UInt8) (w : World), w.heap[b]? = some (.cells #[p, v] TB (0, 0)) → w.ownsRow 0 T5 1 v l.length (Lib.byteCells l) → v.ownBlock ≠ some b →
  Calls P f #[.pointer (some ⟨b, 0, none⟩)] w fun en w' => en = .returned (.string ⟨l.toArray⟩) ∧ w.grownBy w' v.ownBlock
def LenLaw (P : Program) (f TB : Nat) : Prop := ∀ (b : Nat) (p : Value) (ao : Option Addr) (n cap : Nat) (w : World), w.heap[b]? = some (.cells #[p, .slice ao n cap] TB (0, 0)) →
  Calls P f #[.pointer (some ⟨b, 0, none⟩)] w fun en w' => en = .returned (.int .i64 n) ∧ w' = w
theorem builder_at (hh : HeapOK c e st w) {id rid TB T5 : Nat} {x : AV} {l : List Int} (hb : getK none st.boxes id = some ⟨TB, [x, .row rid], true⟩) (hr : getK none st.rows rid = some ⟨T5, .int .u8, l, true⟩) (hl : BYL l) :
    ∃ p, R st e x p ∧ w.heap[e.β id]? = some (.cells #[p, e.ρ rid] TB (0, 0)) ∧ w.ownsRow 0 T5 1 (e.ρ rid) (u8L l).length (Lib.byteCells (u8L l)) ∧ (e.ρ rid).ownBlock ≠ some (e.β id) := by
  obtain ⟨⟨vs, h1, h2, h3⟩, h4⟩ := hh.box id _ hb
  obtain ⟨p, vs1, rfl, hp, v, vs2, rfl, hv, hvs⟩ := h2
  simp only [RL] at hvs
  subst hvs
  obtain ⟨_, rfl⟩ := hv
  obtain ⟨_, how, _⟩ := hh.row rid _ hr
  have := how.to_row (by simp)
  rw [byteCells_u8 hl] at this
  refine ⟨p, hp, h1, by rw [show (u8L l).length = l.length by simp [u8L]]; exact this, fun h => ?_⟩
  exact hh.apart id rid (e.β id) (by simp [blkB, hb]) (by simp [blkR, hr, h])
def cBStr (TB T5 : Nat) : Con
  | [.box _ 0 T true [_, .row rid ⟨T', .int .u8, l, true⟩]] => if T = TB ∧ T' = T5 then some ⟨[BYL l], .a (.s (bytesOf l)), [rid], []⟩ else none
  | _ => none
theorem resolveFL_two {bs : List (Option Box)} {rs : List (Option Row)} {n : Nat} {l : List AV} {r1 r2 : RV} (h : resolveFL bs rs n l = some [r1, r2]) : ∃ x y, l = [x, y] ∧ ∃ m, resolveF bs rs m y = some r2 := by
  cases n with
  | zero => simp [resolveFL] at h
  | succ n =>
    cases l with
    | nil => simp [resolveFL] at h
    | cons x l =>
      obtain ⟨r, m, h1, h2, h3⟩ := resolveFL_cons h
      cases h3
      cases n with
      | zero => simp [resolveFL] at h2
      | succ n =>
        cases l with
        | nil => simp [resolveFL] at h2
        | cons y l =>
          obtain ⟨r', m', h4, h5, h6⟩ := resolveFL_cons h2
          cases h6
          cases n with
          | zero => simp [resolveFL] at h5
          | succ n =>
            cases l with
            | nil => exact ⟨x, y, rfl, _, h4⟩
            | cons z l =>
              obtain ⟨_, _, _, _, h7⟩ := resolveFL_cons h5
              cases h7
theorem resolveF_row {bs : List (Option Box)} {rs : List (Option Row)} {n : Nat} {v : AV} {id : Nat} {r : Row} (h : resolveF bs rs n v = some (.row id r)) : v = .row id ∧ getK none rs id = some r := by
  cases n with
  | zero => simp [resolveF] at h
  | succ n =>
    cases v with
    | row i =>
      simp only [resolveF] at h
      split at h
      · rename_i q hq; cases h; exact ⟨rfl, hq⟩
      · cases h
    | _ =>
      simp only [resolveF] at h
      first
        | (cases h; done)
        | (split at h <;> first | (cases h; done) | (split at h <;> cases h))
theorem resolveF_box {bs : List (Option Box)} {rs : List (Option Row)} {n : Nat} {v : AV} {id off T : Nat} {own : Bool} {l : List RV} (h : resolveF bs rs n v = some (.box id off T own l)) :
    v = .box id off ∧ ∃ cells m, getK none bs id = some ⟨T, cells, own⟩ ∧ resolveFL bs rs m (mapK (selfA id) cells) = some l := by
  cases n with
  | zero => simp [resolveF] at h
  | succ n =>
    cases v with
    | box i o =>
      simp only [resolveF] at h
      split at h
      · rename_i T' cells own' hb
        split at h
        · rename_i l' hl
          cases h
          exact ⟨rfl, cells, _, hb, hl⟩
        · cases h
      · cases h
    | _ =>
      simp only [resolveF] at h
      first
        | (cases h; done)
        | (split at h <;> first | (cases h; done) | (split at h <;> cases h))
theorem allRes1 {st : St} {avs : List AV} {r1 : RV} (h : allRes (resolve st) avs = some [r1]) : ∃ v, avs = [v] ∧ resolve st v = some r1 := by
  cases avs with
  | nil => simp [allRes] at h
  | cons v l =>
    simp only [allRes] at h
    split at h
    · rename_i r hr
      split at h
      · rename_i m hm
        cases h
        cases l with
        | nil => exact ⟨v, rfl, hr⟩
        | cons u l =>
          simp only [allRes] at hm
          split at hm
          · split at hm <;> cases hm
          · cases hm
      · cases h
    · cases h
theorem selfA_row {id rid : Nat} {y : AV} (h : selfA id y = .row rid) : y = .row rid := by
  unfold selfA at h
  split at h
  · split at h <;> cases h
  · exact h
theorem con_bstr {G : Nat → World → Prop} {f TB T5 : Nat} {fn : Func} (hf : P.funcs[f]? = some fn) (hb : fn.body.isSome = true) (hname : (fn.name == "runtime.NumGoroutine") = false) (hs : StrLaw P f TB T5) : ConOK P G f (cBStr TB T5) := by
  intro c e st w avs rvs cr vals fb fr hG hh hres hargs hcr hpre _ _
  refine ⟨⟨fn, hf, hb, hname⟩, ?_⟩
  unfold cBStr at hcr
  split at hcr
  · rename_i id T c0 rid T' l
    split at hcr
    · rename_i hT
      obtain ⟨rfl, rfl⟩ := hT
      cases hcr
      have hl := hpre _ (List.mem_singleton.2 rfl)
      obtain ⟨v, rfl, h1⟩ := allRes1 hres
      obtain ⟨x, xs, rfl, hx, hxs⟩ := hargs
      simp only [RL] at hxs
      subst hxs
      obtain ⟨rfl, cells, m, h2, h3⟩ := resolveF_box h1
      obtain ⟨x0, y0, h4, m', h5⟩ := resolveFL_two h3
      obtain ⟨rfl, h6⟩ := resolveF_row h5
      obtain ⟨a0, b0, rfl⟩ : ∃ a0 b0, cells = [a0, b0] := by
        have hlen := congrArg List.length h4
        rw [mapK_eq, List.length_map] at hlen
        rcases cells with _ | ⟨a0, _ | ⟨b0, _ | ⟨c0, r⟩⟩⟩
        · cases hlen
        · cases hlen
        · exact ⟨a0, b0, rfl⟩
        · cases hlen
      simp only [mapK, List.cons.injEq, and_true] at h4
      have h7 := selfA_row h4.2
      subst h7
      obtain ⟨_, rfl⟩ := hx
      obtain ⟨p, _, k1, k2, k3⟩ := builder_at hh h2 h6 hl
      refine (hs _ _ _ (u8L l) w k1 k2 k3).mono ?_
      rintro en w' ⟨rfl, hg⟩
      obtain ⟨k4, k5⟩ := hh.kill1 h6 rfl hg
      refine ⟨_, e, rfl, ?_, ?_, ?_⟩
      · obtain ⟨ts, bs, rs, ys, pn⟩ := st; exact k4
      · obtain ⟨ts, bs, rs, ys, pn⟩ := st; exact k5
      · show Value.string _ = _
        rw [bytesOf_u8]
    · cases hcr
  · cases hcr

def CcLaw (P : Program) (f TB : Nat) : Prop := ∀ (b : Nat) (p v : Value) (w : World), w.heap[b]? = some (.cells #[p, v] TB (0, 0)) → p = .pointer none ∨ p = .pointer (some ⟨b, 0, none⟩) →
  Calls P f #[.pointer (some ⟨b, 0, none⟩)] w fun en w' => en = .returned (.tuple #[]) ∧ (storeCells ⟨b, 0, none⟩ [.pointer (some ⟨b, 0, none⟩)]).run P w = .ok () w'
theorem tr_copyCheck {o : Oper} {x : Operand} {tys : Array TypeId} {f TB id : Nat} {a0 a1 : AV} {fn : Func} {k : St → Prop} (hC : CcLaw P f TB) (ho : o.op = .call ⟨.value (.func f), #[x], tys⟩) (hf : P.funcs[f]? = some fn) (hb : fn.body.isSome = true) (hname : (fn.name == "runtime.NumGoroutine") = false)
    (hx : opnd st.tmps x = .box id 0) (hbx : getK none st.boxes id = some ⟨TB, [a0, a1], true⟩) (ha : a0 = .nilp ∨ a0 = .box id 0)
    (h : k ⟨match o.dst with | some d => backSt.setAt st.tmps d (.tup []) | none => st.tmps, putAt none st.boxes id (some ⟨TB, [.box id 0, a1], true⟩), st.rows, st.ys, st.pin⟩) : TrOne P c o st k := by
  intro e a w K' Q hh ht hK
  have hxR := opnd_R ht x
  rw [hx] at hxR
  obtain ⟨_, hxv⟩ := hxR
  obtain ⟨⟨vs, h1, h2, h3⟩, _⟩ := hh.box id _ hbx
  obtain ⟨p, vs1, rfl, hp, v, vs2, rfl, hv, hvs⟩ := h2
  simp only [RL] at hvs
  subst hvs
  have hp' : p = .pointer none ∨ p = .pointer (some ⟨e.β id, 0, none⟩) := by
    rcases ha with rfl | rfl
    · exact .inl hp
    · exact .inr hp.2
  have hcalls := hC (e.β id) p v w h1 hp'
  refine wp_in (fun cl hcl => by rw [ho] at hcl; cases hcl) ?_
  unfold Oper.wp
  have : (execOp a.eval o).run P w = .ok (.enter f #[.pointer (some ⟨e.β id, 0, none⟩)]) w := by
    have hb' : fn.body ≠ none := by intro h'; rw [h'] at hb; cases hb
    have hne : fn.name ≠ "runtime.NumGoroutine" := by simpa using hname
    have hfe : a.eval (.func f) = .func (.func f) #[] #[] := rfl
    simp only [execOp, ho, Go.resolve, hfe, Deferred.ofValue, invoke, callFunc]
    simp [hf, hne, hb', hxv]
  rw [this]
  simp only [Oper.upon]
  refine hcalls.mono ?_
  rintro en w' ⟨rfl, hst⟩
  obtain ⟨w2, h4, h5, h6⟩ := turnBox (P := P) (off := 0) (l := [.box id 0]) (us := [.pointer (some ⟨e.β id, 0, none⟩)]) hh hbx rfl ⟨_, [], rfl, ⟨⟨_, hbx⟩, rfl⟩, rfl⟩ (fun u hu => by rcases List.mem_singleton.1 hu with rfl; rfl) (by simp)
  rw [hst] at h4
  cases h4
  have h7 : overK (Box.cells ⟨TB, [a0, a1], true⟩) 0 [AV.box id 0] = [.box id 0, a1] := rfl
  rw [h7] at h5 h6
  refine hK _ e _ w' (HeapOK_tmps h5) ⟨?_, by cases o.dst <;> exact ht.2⟩ h
  have := put_dst (a := a) (av := .tup []) (v := .tuple #[]) o.dst (RL_keep h6 ht.1) ⟨[], rfl, rfl⟩
  exact RL_st (st := ⟨st.tmps, putAt none st.boxes id (some ⟨TB, [.box id 0, a1], true⟩), st.rows, st.ys, st.pin⟩) rfl rfl this
theorem exec_call1 {o : Oper} {x : Operand} {tys : Array TypeId} {f : Nat} {fn : Func} {v : Value} (ho : o.op = .call ⟨.value (.func f), #[x], tys⟩) (hf : P.funcs[f]? = some fn) (hb : fn.body.isSome = true) (hname : (fn.name == "runtime.NumGoroutine") = false) (hxv : a.eval x = v) :
    (execOp a.eval o).run P w = .ok (.enter f #[v]) w := by
  have hb' : fn.body ≠ none := by intro h'; rw [h'] at hb; cases hb
  have hne : fn.name ≠ "runtime.NumGoroutine" := by simpa using hname
  have hfe : a.eval (.func f) = .func (.func f) #[] #[] := rfl
  simp only [execOp, ho, Go.resolve, hfe, Deferred.ofValue, invoke, callFunc]
  simp [hf, hne, hb', hxv]
theorem trOps_strLen {ops : Array Oper} {o1 o2 : Oper} {rest : List Oper} {K : St → Prop} {x1 x2 : Operand} {ty1 ty2 : Array TypeId} {fS fL TB T5 id rid d1 : Nat} {a0 : AV} {l : List Int} {fn1 fn2 : Func} (hS : StrLaw P fS TB T5) (hL : LenLaw P fL TB)
    (hg1 : o1.guard = none) (hg2 : o2.guard = none) (ho1 : o1.op = .call ⟨.value (.func fS), #[x1], ty1⟩) (ho2 : o2.op = .call ⟨.value (.func fL), #[x2], ty2⟩)
    (hf1 : P.funcs[fS]? = some fn1) (hb1 : fn1.body.isSome = true) (hn1 : (fn1.name == "runtime.NumGoroutine") = false) (hf2 : P.funcs[fL]? = some fn2) (hb2 : fn2.body.isSome = true) (hn2 : (fn2.name == "runtime.NumGoroutine") = false)
    (hx1 : opnd st.tmps x1 = .box id 0) (hd1 : o1.dst = some d1) (hx2 : opnd (backSt.setAt st.tmps d1 (.s (bytesOf l))) x2 = .box id 0)
    (hbx : getK none st.boxes id = some ⟨TB, [a0, .row rid], true⟩) (hr : getK none st.rows rid = some ⟨T5, .int .u8, l, true⟩) (hl : BYL l)
    (h : TrOps P c ops rest ⟨match o2.dst with | some d => backSt.setAt (backSt.setAt (mapK (sweep [rid]) st.tmps) d1 (.s (bytesOf l))) d (.i .i64 l.length) | none => backSt.setAt (mapK (sweep [rid]) st.tmps) d1 (.s (bytesOf l)), mapK (sweepBox [rid]) st.boxes, killOne st.rows rid, st.ys, mapK (sweep [rid]) st.pin⟩ K) : TrOps P c ops (o1 :: o2 :: rest) st K := by
  intro e a w Q hh ht hK
  have hxR := opnd_R ht x1
  rw [hx1] at hxR
  obtain ⟨_, hxv⟩ := hxR
  obtain ⟨p, _, k1, k2, k3⟩ := builder_at hh hbx hr hl
  have hw1 : Region.wanted o1 (yielded ops a.tmps) = true := by simp [Region.wanted, hg1]
  unfold wpListIn
  rw [if_pos hw1]
  refine wp_in (fun cl hcl => by rw [ho1] at hcl; cases hcl) ?_
  unfold Oper.wp
  rw [exec_call1 ho1 hf1 hb1 hn1 hxv]
  simp only [Oper.upon]
  refine (hS _ _ _ _ w k1 k2 k3).mono ?_
  rintro en w' ⟨rfl, hg⟩
  obtain ⟨k4, k5⟩ := hh.kill1 hr rfl hg
  rw [← bytesOf_u8]
  have hput := put_dst (a := a) (av := .s (bytesOf l)) (v := .string (bytesOf l)) o1.dst ht.1 rfl
  have ht1 : TmpsOK c ⟨backSt.setAt st.tmps d1 (.s (bytesOf l)), st.boxes, st.rows, st.ys, st.pin⟩ e (a.put o1.dst (.string (bytesOf l))) := by
    rw [hd1] at hput ⊢
    exact ⟨RL_st (st := st) rfl rfl hput, ht.2⟩
  have hxR2 := opnd_R ht1 x2
  rw [hx2] at hxR2
  obtain ⟨_, hxv2⟩ := hxR2
  have hbk : w'.heap[e.β id]? = some (.cells #[p, e.ρ rid] TB (0, 0)) := by
    rw [hg.block _ (lt_of_heap k1) (fun h => k3 h.symm)]; exact k1
  obtain ⟨ao, cap, hρ⟩ := hh.row_slice hr
  simp only at hρ
  rw [hρ] at hbk
  have hw2 : Region.wanted o2 (yielded ops (a.put o1.dst (.string (bytesOf l))).tmps) = true := by simp [Region.wanted, hg2]
  simp only
  unfold wpListIn
  rw [if_pos hw2]
  refine wp_in (fun cl hcl => by rw [ho2] at hcl; cases hcl) ?_
  unfold Oper.wp
  rw [exec_call1 ho2 hf2 hb2 hn2 hxv2]
  simp only [Oper.upon]
  refine (hL _ _ _ _ _ w' hbk).mono ?_
  rintro en2 w2 ⟨rfl, rfl⟩
  have k6 : RL ⟨mapK (sweep [rid]) st.tmps, mapK (sweepBox [rid]) st.boxes, killOne st.rows rid, st.ys, mapK (sweep [rid]) st.pin⟩ e (mapK (sweep [rid]) st.tmps) a.tmps.toList := RL_mono k5.keep ht.1
  have k7 := put_dst (a := a) (av := .s (bytesOf l)) (v := .string (bytesOf l)) o1.dst k6 rfl
  rw [hd1] at k7 ⊢
  have k8 := put_dst (a := a.put (some d1) (.string (bytesOf l))) (av := .i .i64 l.length) (v := .int .i64 l.length) o2.dst k7 rfl
  refine h e _ w2 Q (HeapOK_tmps k4) ⟨?_, by cases o2.dst <;> exact ht.2⟩ hK
  cases ho : o2.dst with
  | none => rw [ho] at k8; exact RL_st (st := ⟨mapK (sweep [rid]) st.tmps, mapK (sweepBox [rid]) st.boxes, killOne st.rows rid, st.ys, mapK (sweep [rid]) st.pin⟩) rfl rfl k8
  | some d => rw [ho] at k8; exact RL_st (st := ⟨mapK (sweep [rid]) st.tmps, mapK (sweepBox [rid]) st.boxes, killOne st.rows rid, st.ys, mapK (sweep [rid]) st.pin⟩) rfl rfl k8

def cSplitF (T9 : Nat) (L : ByteArray → ByteArray → List ByteArray) (ok : ByteArray → ByteArray → Prop) : Con
  | [.a (.s s), .a (.s sep)] => some ⟨[ok s sep], .row ⟨T9, .str, L s sep, true⟩, [], []⟩
  | _ => none
theorem con_split {G : Nat → World → Prop} {f T9 : Nat} {fn : Func} {L : ByteArray → ByteArray → List ByteArray} {ok : ByteArray → ByteArray → Prop} (hf : P.funcs[f]? = some fn) (hb : fn.body.isSome = true) (hname : (fn.name == "runtime.NumGoroutine") = false)
    (hs : ∀ g0 w s sep, G g0 w → ok s sep → (L s sep).length ≤ maxLen ∧ Calls P f #[.string s, .string sep] w fun en w' => en = .returned (.slice (some ⟨w.heap.size, 0, none⟩) (L s sep).length (L s sep).length) ∧ w' = w.alloc (.cells ((L s sep).map Value.string).toArray T9)) : ConOK P G f (cSplitF T9 L ok) := by
  intro c e st w avs rvs cr vals fb fr hG hh hres hargs hcr hpre _ hfr
  refine ⟨⟨fn, hf, hb, hname⟩, ?_⟩
  unfold cSplitF at hcr
  split at hcr
  · rename_i s sep
    cases hcr
    have hok := hpre _ (List.mem_singleton.2 rfl)
    obtain ⟨v, u, rfl, h1, h2⟩ := allRes2 hres
    obtain ⟨x, xs, rfl, hx, hxs⟩ := hargs
    obtain ⟨y, ys, rfl, hy, hys⟩ := hxs
    simp only [RL] at hys
    subst hys
    have hx' := valRV_R (u := .string s) h1 rfl hx
    have hy' := valRV_R (u := .string sep) h2 rfl hy
    subst hx'; subst hy'
    obtain ⟨hlen, hc⟩ := hs _ w s sep hG hok
    refine hc.mono ?_
    rintro en w' ⟨rfl, rfl⟩
    obtain ⟨h3, h4⟩ := addRow (fr := fr) (r := ⟨T9, .str, L s sep, true⟩) (v := .slice (some ⟨w.heap.size, 0, none⟩) (L s sep).length (L s sep).length) hh ((Below.refl _ _).alloc (Nat.le_refl _) _) (hfr fr (Nat.le_refl _) (by simp [RT.inst])) rfl
      (.inr ⟨w.heap.size, _, ((L s sep).map Value.string).toArray, (0, 0), rfl, heap_alloc_new w _, rfl, Nat.le_refl _, hlen, by simp [EK.size], by rw [valsS]; exact List.take_of_length_le (by simp [EK.size])⟩) (fun g hg => by simp [Value.ownBlock] at hg; omega)
    refine ⟨_, ⟨e.β, updV e.ρ fr (.slice (some ⟨w.heap.size, 0, none⟩) (L s sep).length (L s sep).length), e.M, e.D, e.l⟩, rfl, ?_, ?_, ?_⟩
    · obtain ⟨ts, bs, rs, ys, pn⟩ := st; exact h3
    · obtain ⟨ts, bs, rs, ys, pn⟩ := st; exact h4
    · obtain ⟨ts, bs, rs, ys, pn⟩ := st
      exact ⟨⟨_, by show getK none (putAt none rs fr _) fr = _; rw [getK_putAt, if_pos rfl]⟩, by simp [updV]⟩
  · cases hcr

def cRevS : Con
  | [.row id ⟨T, .str, l, true⟩] => some ⟨[l.length ≤ 4000000000], .tup [], [], [(id, ⟨T, .str, l.reverse, true⟩)]⟩
  | _ => none
theorem con_rev {G : Nat → World → Prop} {f : Nat} {fn : Func} (hf : P.funcs[f]? = some fn) (hb : fn.body.isSome = true) (hname : (fn.name == "runtime.NumGoroutine") = false)
    (hs : ∀ (b c : Nat) (l : List ByteArray) (w : World), l.length ≤ 4000000000 → (∀ i, i < l.length → w.cell? ⟨b, i, none⟩ = some (.string (l.getD i ByteArray.empty))) → (∀ j, j < l.length → w.frozen? ⟨b, j, none⟩ = false) →
      Calls P f #[.slice (some ⟨b, 0, none⟩) l.length c] w fun en w' => en = .returned (.tuple #[]) ∧ ∃ q, w' = (w.drewN q).setCells b 0 (l.reverse.map Value.string))
    (hn : ∀ (a : Option Addr) (cap : Nat) (w : World), Calls P f #[.slice a 0 cap] w fun en w' => en = .returned (.tuple #[]) ∧ w' = w) : ConOK P G f cRevS := by
  intro c e st w avs rvs cr vals fb fr hG hh hres hargs hcr hpre _ _
  refine ⟨⟨fn, hf, hb, hname⟩, ?_⟩
  unfold cRevS at hcr
  split at hcr
  · rename_i id T l
    cases hcr
    have hlen : l.length ≤ 4000000000 := hpre _ (List.mem_singleton.2 rfl)
    obtain ⟨v, rfl, h1⟩ := allRes1 hres
    obtain ⟨x, xs, rfl, hx, hxs⟩ := hargs
    simp only [RL] at hxs
    subst hxs
    obtain ⟨rfl, hr⟩ := resolveF_row h1
    obtain ⟨_, rfl⟩ := hx
    obtain ⟨hpos, hown, hmine⟩ := hh.row _ _ hr
    have hnew : ∀ w', HeapOK c e ⟨st.tmps, st.boxes, putAt none st.rows id (some ⟨T, .str, l.reverse, true⟩), st.ys, st.pin⟩ w' → Pres st e ⟨st.tmps, st.boxes, putAt none st.rows id (some ⟨T, .str, l.reverse, true⟩), st.ys, st.pin⟩ e [] →
        ∃ v e', Ending.returned (.tuple #[]) = .returned v ∧ HeapOK c e' ((CR.eff ⟨[l.length ≤ 4000000000], .tup [], [], [(id, ⟨T, .str, l.reverse, true⟩)]⟩ fb fr).apply fb fr st) w' ∧
          Pres st e ((CR.eff ⟨[l.length ≤ 4000000000], .tup [], [], [(id, ⟨T, .str, l.reverse, true⟩)]⟩ fb fr).apply fb fr st) e' [] ∧
          R ((CR.eff ⟨[l.length ≤ 4000000000], .tup [], [], [(id, ⟨T, .str, l.reverse, true⟩)]⟩ fb fr).apply fb fr st) e' (.tup []) v := by
      intro w' h1 h2
      refine ⟨.tuple #[], e, rfl, ?_, ?_, ⟨[], rfl, rfl⟩⟩
      · obtain ⟨ts, bs, rs, ys, pn⟩ := st; exact h1
      · obtain ⟨ts, bs, rs, ys, pn⟩ := st; exact h2
    rcases hown with ⟨hv, hl0⟩ | ⟨g, cap, cur, fz, hv, hgg, hfz, hnc, hcm, hcs, htake⟩
    · have hl0' : l = [] := hl0
      subst hl0'
      rw [hv]
      refine (hn none 0 w).mono ?_
      rintro en w' ⟨rfl, rfl⟩
      refine hnew _ ?_ ?_
      all_goals
        have hsame : ∀ i, getK none st.rows i = getK none (putAt none st.rows id (some ⟨T, .str, [].reverse, true⟩)) i := by
          intro i
          rw [getK_putAt]
          by_cases hi : i = id
          · subst hi; rw [if_pos rfl]; exact hr
          · rw [if_neg hi]
        have hx := ext_heap (c := c) (e := e) (w := w') (st := st) (st' := ⟨st.tmps, st.boxes, putAt none st.rows id (some ⟨T, .str, [].reverse, true⟩), st.ys, st.pin⟩) (fun _ => rfl) hsame rfl rfl
      · exact hx.2 hh
      · refine pres_of rfl rfl (fun i b hi => ⟨⟨b, hi⟩, rfl⟩) (fun i q _ hq => ⟨⟨q, by rw [← hsame]; exact hq, rfl, Nat.le_refl _⟩, rfl⟩)
    · rw [hv]
      have htake' : cur.toList.take l.length = l.map Value.string := by
        have := htake
        rw [valsS] at this
        simpa [EK.size] using this
      have hcs' : cur.size = cap := by simpa [EK.size] using hcs
      have hnc' : l.length ≤ cap := hnc
      have hfz' : fz = (0, 0) := hfz
      subst hfz'
      have hcell : ∀ i, i < l.length → w.cell? ⟨g, i, none⟩ = some (.string (l.getD i ByteArray.empty)) := fun i hi => by
        have h1 := congrArg (fun m => m[i]?) htake'
        simp only [List.getElem?_take, if_pos hi, List.getElem?_map, List.getElem?_eq_getElem hi, Option.map_some, Array.getElem?_toList] at h1
        unfold World.cell?
        simp only [hgg]
        rw [h1, List.getD_eq_getElem?_getD, List.getElem?_eq_getElem hi]; rfl
      have hfrz : ∀ j, j < l.length → w.frozen? ⟨g, j, none⟩ = false := fun j _ => by
        unfold World.frozen?
        simp [hgg]
      refine (hs g cap l w hlen hcell hfrz).mono ?_
      rintro en w' ⟨rfl, q, rfl⟩
      have hh1 : HeapOK c e st (w.drewN q) := hh.moved ⟨rfl, rfl, rfl, Nat.le_refl _, fun k hk => rfl⟩
      obtain ⟨w1, h1, h2, h3⟩ := turnRowL (P := P) (id := id) (r := ⟨T, .str, l, true⟩) (lo := 0) (m := l.reverse) hh1 hr rfl (by simp) hv
      have hst := run_storeCells_cells (P := P) g 0 (l.reverse.map Value.string) 0 (w.drewN q) (fun j hj => by
          simp only [List.length_map, List.length_reverse] at hj
          have := hcell j hj
          simp only [Nat.zero_add]
          rw [show (w.drewN q).cell? ⟨g, j, none⟩ = w.cell? ⟨g, j, none⟩ from rfl, this]; rfl) (fun j hj => by
          simp only [List.length_map, List.length_reverse] at hj
          simp only [Nat.zero_add]
          exact hfrz j hj) (fun v hv' => by rw [List.mem_map] at hv'; obtain ⟨q, _, rfl⟩ := hv'; rfl)
      have hadd : (⟨g, 0, none⟩ : Addr).add (0 * (EK.str).size) = ⟨g, 0, none⟩ := by simp [Addr.add_lit]
      rw [hadd, valsS, hst] at h1
      cases h1
      have e1 : (⟨T, .str, (⟨T, .str, l, true⟩ : Row).l.take 0 ++ l.reverse ++ (⟨T, .str, l, true⟩ : Row).l.drop (0 + l.reverse.length), true⟩ : Row) = ⟨T, .str, l.reverse, true⟩ := by
        show (⟨T, .str, l.take 0 ++ l.reverse ++ l.drop (0 + l.reverse.length), true⟩ : Row) = _
        simp
      rw [e1] at h2 h3
      exact hnew _ h2 h3
  · cases hcr
end
end Go.X

namespace Go.X
open Go.RowKit Go.Extern
section
variable {P : Program} {G : Nat → World → Prop}
theorem con_extR {f : FuncId} {con : Con} {fn : Func} (hf : P.funcs[f]? = some fn) (hb : fn.body.isSome = true) (hname : (fn.name == "runtime.NumGoroutine") = false)
    (h : ∀ rvs cr, con rvs = some cr → (∀ p ∈ cr.pre, p) → ∃ us av, valsRV rvs = some us ∧ cr = ⟨cr.pre, .a av, [], []⟩ ∧ ∀ g0 w, g0 ≤ w.heap.size → G g0 w → Calls P f us.toArray w fun e w' => (∃ u, e = .returned u ∧ ∀ st e, R st e av u) ∧ Below w.heap.size w w') : ConOK P G f con := by
  intro c e st w avs rvs cr vals fb fr hG hh hres hargs hcr hpre _ _
  refine ⟨⟨fn, hf, hb, hname⟩, ?_⟩
  obtain ⟨us, av, h1, h2, h4⟩ := h rvs cr hcr hpre
  rw [valsRV_RL _ _ _ _ hres h1 hargs]
  refine (h4 c.g0 w (Nat.le_trans c.g0_le hh.base_le) hG).mono ?_
  rintro en w' ⟨⟨u, rfl, h3⟩, hbl⟩
  rw [h2]
  refine ⟨u, e, rfl, hh.moved hbl, pres_refl, h3 _ _⟩
theorem con_cases {f : FuncId} {con : Con} {c1 c2 : Con} (h1 : ConOK P G f c1) (h2 : ConOK P G f c2)
    (h : ∀ rvs cr, con rvs = some cr → (∀ p ∈ cr.pre, p) → (∃ cr', c1 rvs = some cr' ∧ (∀ p ∈ cr'.pre, p) ∧ cr'.res = cr.res ∧ cr'.kill = cr.kill ∧ cr'.setr = cr.setr) ∨ (∃ cr', c2 rvs = some cr' ∧ (∀ p ∈ cr'.pre, p) ∧ cr'.res = cr.res ∧ cr'.kill = cr.kill ∧ cr'.setr = cr.setr)) : ConOK P G f con := by
  intro c e st w avs rvs cr vals fb fr hG hh hres hargs hcr hpre h3 h4
  rcases h rvs cr hcr hpre with ⟨cr', k1, k2, k3, k4, k5⟩ | ⟨cr', k1, k2, k3, k4, k5⟩
  · obtain ⟨p', r', k', s'⟩ := cr'
    obtain ⟨p, r, k, s⟩ := cr
    dsimp only at k3 k4 k5
    subst k3; subst k4; subst k5
    exact h1 c e st w avs rvs ⟨p', _, _, _⟩ vals fb fr hG hh hres hargs k1 k2 h3 h4
  · obtain ⟨p', r', k', s'⟩ := cr'
    obtain ⟨p, r, k, s⟩ := cr
    dsimp only at k3 k4 k5
    subst k3; subst k4; subst k5
    exact h2 c e st w avs rvs ⟨p', _, _, _⟩ vals fb fr hG hh hres hargs k1 k2 h3 h4
theorem seat_conG {TT : TypeId → Option TD} (hS : Seat P G TT) {f : FuncId} {fn : Func} {code : Code} {con : Con} (l : List (Nat × Con)) (sh : List (Option (TypeId × EK))) (hl : AllC P G l)
    (hf : P.funcs[f]? = some fn) (hb : fn.body = some code) (hname : (fn.name == "runtime.NumGoroutine") = false) (hd : drawsOk (tabC l) code = true)
    (h : ∀ rvs cr, con rvs = some cr → (∀ p ∈ cr.pre, p) → (cr.res.own = true ∧ cr.setr = [] ∧ occOk cr.kill (normL sh rvs) = true) ∧
      ∀ c : Ctx, c.r = none → (∀ w, Frame c w → G c.g0 w) → VS P TT (tabC l) c → stF ⟨fillAny fn.ntmps (impL cr.kill 0 0 (normL sh rvs)).1, (impL cr.kill 0 0 (normL sh rvs)).2.1, (impL cr.kill 0 0 (normL sh rvs)).2.2, [], []⟩ (fun st => vc P TT (tabC l) noY c code st (endOf TT fn (postOf cr.res)))) : ConOK P G f con :=
  con_of_body sh hf hb hname hd hS.tt (tabC_ok l hl) (fun _ hgood hY => draw_ok hS.tt (tabC_ok l hl) hgood hY hS.mixed) hS.good (fun rvs cr h1 h2 => ⟨(h rvs cr h1 h2).1, fun c hc hgood => by
    have := (h rvs cr h1 h2).2 c hc hgood ⟨fun c' hk code st K hd hv => by
      rw [stF_eq] at hv
      exact vc_sound hS.tt (tabC_ok l hl) (hk.good hgood) yok_no (draw_ok hS.tt (tabC_ok l hl) (hk.good hgood) yok_no hS.mixed) code st K hd hv,
      fun c' hk ops l' st K hv => by
      rw [stF_eq] at hv
      exact fun e a w Q hh ht hK => vcOps_sound hS.tt (tabC_ok l hl) (hk.good hgood) yok_no hK l' st e a w hh ht hv⟩
    rw [stF_eq] at this
    exact this⟩)
end
section
variable {P : Program} {c : Ctx}
theorem exec_call2 {a : Act} {w : World} {o : Oper} {x y : Operand} {tys : Array TypeId} {f : Nat} {fn : Func} {v u : Value} (ho : o.op = .call ⟨.value (.func f), #[x, y], tys⟩) (hf : P.funcs[f]? = some fn) (hb : fn.body.isSome = true) (hname : (fn.name == "runtime.NumGoroutine") = false) (hxv : a.eval x = v) (hyv : a.eval y = u) :
    (execOp a.eval o).run P w = .ok (.enter f #[v, u]) w := by
  have hb' : fn.body ≠ none := by intro h'; rw [h'] at hb; cases hb
  have hne : fn.name ≠ "runtime.NumGoroutine" := by simpa using hname
  have hfe : a.eval (.func f) = .func (.func f) #[] #[] := rfl
  simp only [execOp, ho, Go.resolve, hfe, Deferred.ofValue, invoke, callFunc]
  simp [hf, hne, hb', hxv, hyv]
def AsLaw (P : Program) (f TP TR : Nat) (GW : World → Prop) (xv : Value) (n : Int) : Prop := ∀ (b : Nat) (old : Value) (w : World), GW w → w.heap[b]? = some (.cells #[old] TR (0, 0)) →
  Calls P f #[xv, .iface TP (.pointer (some ⟨b, 0, none⟩))] w fun en w' => en = .returned (.bool true) ∧ ∃ w1, Below w.heap.size w w1 ∧ (storeCells ⟨b, 0, none⟩ [.int .i64 n]).run P w1 = .ok () w'
theorem tr_as {o : Oper} {x y : Operand} {tys : Array TypeId} {f TP TR id : Nat} {a0 xa : AV} {xv : Value} {n : Int} {GW : World → Prop} {fn : Func} {k : St → Prop} (hC : AsLaw P f TP TR GW xv n) (hG : ∀ w, Frame c w → GW w) (ho : o.op = .call ⟨.value (.func f), #[x, y], tys⟩) (hf : P.funcs[f]? = some fn) (hb : fn.body.isSome = true) (hname : (fn.name == "runtime.NumGoroutine") = false)
    {st : St} (hx : opnd st.tmps x = xa) (hxa : valC xa = some xv) (hy : opnd st.tmps y = .ifc TP (.box id 0)) (hbx : getK none st.boxes id = some ⟨TR, [a0], true⟩)
    (h : k ⟨match o.dst with | some d => backSt.setAt st.tmps d (.b true) | none => st.tmps, putAt none st.boxes id (some ⟨TR, [.i .i64 n], true⟩), st.rows, st.ys, st.pin⟩) : TrOne P c o st k := by
  intro e a w K' Q hh ht hK
  have hxR := opnd_R ht x
  rw [hx] at hxR
  have hxv := valC_R xa _ _ hxa hxR
  have hyR := opnd_R ht y
  rw [hy] at hyR
  obtain ⟨yv, hyv, _, hyp⟩ := hyR
  rw [hyp] at hyv
  obtain ⟨⟨vs, h1, h2, h3⟩, _⟩ := hh.box id _ hbx
  obtain ⟨p, vs1, rfl, hp, h2⟩ := h2
  simp only [RL] at h2
  subst h2
  refine wp_in (fun cl hcl => by rw [ho] at hcl; cases hcl) ?_
  unfold Oper.wp
  rw [exec_call2 ho hf hb hname hxv hyv]
  simp only [Oper.upon]
  refine (hC (e.β id) p w (hG w hh.frame) h1).mono ?_
  rintro en w' ⟨rfl, w1, hbel, hst⟩
  have hh1 := hh.moved hbel
  obtain ⟨w2, h4, h5, h6⟩ := turnBox (P := P) (off := 0) (l := [.i .i64 n]) (us := [.int .i64 n]) hh1 hbx rfl ⟨_, [], rfl, rfl, rfl⟩ (fun u hu => by rcases List.mem_singleton.1 hu with rfl; rfl) (by simp)
  rw [hst] at h4
  cases h4
  have h7 : overK (Box.cells ⟨TR, [a0], true⟩) 0 [AV.i .i64 n] = [.i .i64 n] := rfl
  rw [h7] at h5 h6
  refine hK _ e _ w' (HeapOK_tmps h5) ⟨?_, by cases o.dst <;> exact ht.2⟩ h
  have := put_dst (a := a) (av := .b true) (v := .bool true) o.dst (RL_keep h6 ht.1) rfl
  exact RL_st (st := ⟨st.tmps, putAt none st.boxes id (some ⟨TR, [.i .i64 n], true⟩), st.rows, st.ys, st.pin⟩) rfl rfl this
def AsNil (P : Program) (f : Nat) : Prop := ∀ (t : Value) (w : World), Calls P f #[.nilIface, t] w fun en w' => en = .returned (.bool false) ∧ w' = w
theorem tr_asNil {o : Oper} {x y : Operand} {tys : Array TypeId} {f : Nat} {fn : Func} {k : St → Prop} (hC : AsNil P f) (ho : o.op = .call ⟨.value (.func f), #[x, y], tys⟩) (hf : P.funcs[f]? = some fn) (hb : fn.body.isSome = true) (hname : (fn.name == "runtime.NumGoroutine") = false)
    {st : St} (hx : opnd st.tmps x = .nili)
    (h : k ⟨match o.dst with | some d => backSt.setAt st.tmps d (.b false) | none => st.tmps, st.boxes, st.rows, st.ys, st.pin⟩) : TrOne P c o st k := by
  intro e a w K' Q hh ht hK
  have hxR := opnd_R ht x
  rw [hx] at hxR
  refine wp_in (fun cl hcl => by rw [ho] at hcl; cases hcl) ?_
  unfold Oper.wp
  rw [exec_call2 ho hf hb hname hxR rfl]
  simp only [Oper.upon]
  refine (hC _ w).mono ?_
  rintro en w' ⟨rfl, rfl⟩
  refine hK _ e _ _ (HeapOK_tmps (ts := st.tmps) (bs := st.boxes) (rs := st.rows) (ys := st.ys) (pn := st.pin) hh) ⟨?_, by cases o.dst <;> exact ht.2⟩ h
  have := put_dst (a := a) (av := .b false) (v := .bool false) o.dst ht.1 rfl
  exact RL_st (st := st) rfl rfl this
end
end Go.X

namespace Go.X
open Go.RowKit

section
variable {st : St} {e e' : Env}
theorem env_R (hβ : e'.β = e.β) (hρ : e'.ρ = e.ρ) (hl : e'.l = e.l) {v : AV} {x : Value} (h : R st e v x) : R st e' v x :=
  keep_R (ids := []) hl (fun id bx hb => ⟨⟨bx, hb⟩, by rw [hβ]⟩) (fun id r _ hr => ⟨⟨r, hr, rfl, Nat.le_refl _⟩, by rw [hρ]⟩) v x (hits_nil v) h
theorem env_RL (hβ : e'.β = e.β) (hρ : e'.ρ = e.ρ) (hl : e'.l = e.l) : ∀ {l : List AV} {vs : List Value}, RL st e l vs → RL st e' l vs := by
  intro l
  induction l with
  | nil => intro vs h; exact h
  | cons x l ih => intro vs h; obtain ⟨v, vs', h1, h2, h3⟩ := h; exact ⟨v, vs', h1, env_R hβ hρ hl h2, ih h3⟩
end

section
variable {P : Program} {c : Ctx}
theorem HeapOK.shift {c' : Ctx} {st : St} {e e' : Env} {w : World} (hk : Kin c c') (hβ : e'.β = e.β) (hρ : e'.ρ = e.ρ) (hl : e'.l = e.l) (hlc : c'.l = c.l) (hD : e'.D = e.D) (hpv : c'.pv = c.pv)
    (hM : ∀ g, ¬ e.M g → (g < c.base ∨ (∃ cs T fz, w.heap[g]? = some (.cells cs T fz)) ∨ w.heap[g]? = some (.deferred (some []))) → ¬ e'.M g) (hmwr : ∀ k, e'.M k → c.wr k ∨ c.base ≤ k) (hJ : c'.J st.ys e'.M w) (hh : HeapOK c e st w) : HeapOK c' e' st w := by
  have hBB : ∀ i, blkB e' st i = blkB e st i := fun i => by
    simp only [blkB, hβ]
  have hRR : ∀ i, blkR e' st i = blkR e st i := fun i => by simp only [blkR, hρ]
  have hf : Frame c' w := ⟨by rw [hk.w0]; exact hh.frame.os, by rw [hk.w0]; exact hh.frame.tape, by rw [hk.w0]; exact hh.frame.output, by rw [hk.w0]; exact hh.frame.size, fun k h1 h2 => by
    rw [hk.w0]; exact hh.frame.block k (by rw [← hk.base]; exact h1) (by rw [← hk.wr]; exact h2)⟩
  have hm : ∀ g, (∃ cs T fz, w.heap[g]? = some (.cells cs T fz)) → Mine c e.M g → Mine c' e'.M g := fun g hc h => by
    refine ⟨?_, hM g h.2 (.inr (.inl hc))⟩
    rw [hk.base, hk.wr]; exact h.1
  have hx : ∀ g, Fixed c e.M g → Fixed c' e'.M g := fun g h => ⟨by rw [hk.base]; exact h.1, by rw [hk.wr]; exact h.2.1, hM g h.2.2 (.inl h.1)⟩
  refine ⟨hf, fun i b' hi => ?_, fun i q hq => ?_, fun i j g h1 h2 => hh.injB i j g (by rw [← hBB]; exact h1) (by rw [← hBB]; exact h2), fun i j g h1 h2 => hh.injR i j g (by rw [← hRR]; exact h1) (by rw [← hRR]; exact h2),
    fun i j g h1 h2 => hh.apart i j g (by rw [← hBB]; exact h1) (by rw [← hRR]; exact h2), hJ, fun D hD' => hh.defd D (by rw [← hD]; exact hD'), fun D hD' => ⟨hM D (hh.defm D (by rw [← hD]; exact hD')).1 (.inr (.inr (hh.defd D (by rw [← hD]; exact hD')))), by rw [hk.base]; exact (hh.defm D (by rw [← hD]; exact hD')).2⟩,
    fun k h => by rw [hk.base, hk.wr]; exact hmwr k h, by rw [hl, hlc]; exact hh.yl, by rw [hD]; exact hh.nd, by rw [hpv]; exact env_RL hβ hρ hl hh.pin⟩
  · obtain ⟨⟨vs, h1, h2, h3⟩, h4⟩ := hh.box i b' hi
    refine ⟨⟨vs, by rw [hβ]; exact h1, env_RL hβ hρ hl h2, h3⟩, ?_⟩
    rw [hβ]
    cases ho : b'.own <;> rw [ho] at h4
    · exact hx _ h4
    · exact hm _ ⟨_, _, _, h1⟩ h4
  · obtain ⟨h3, h4⟩ := hh.row i q hq
    refine ⟨h3, ?_⟩
    rw [hρ]
    cases ho : q.own <;> rw [ho] at h4
    · obtain ⟨a, cap, h5, h6, h7, h8⟩ := h4
      exact ⟨a, cap, h5, h6, h7, fun j v hj => by obtain ⟨b, h9, h10, h11⟩ := h8 j v hj; exact ⟨b, h9, hx _ h10, by rw [hk.w0]; exact h11⟩⟩
    · exact ⟨h4.1, fun g hg => hm g (by obtain ⟨_, cs, T, fz, h5⟩ := h4.1.lt hg; exact ⟨cs, T, fz, h5⟩) (h4.2 g hg)⟩
def mapCtx (c : Ctx) (b : Nat) (es : Array MapEntry) (clock : Nat) : Ctx :=
  { c with
    J := fun ys M w => c.J ys (fun k => M k ∧ k ≠ b) w ∧ M b ∧ w.heap[b]? = some (.map es clock)
    Jlt := fun ys M w h k hk => by
      by_cases hkb : k = b
      · subst hkb; exact lt_of_heap h.2.2
      · exact c.Jlt _ _ _ h.1 k ⟨hk, hkb⟩
    Jst := fun ys M w w' h h1 h2 h3 h4 h5 => ⟨c.Jst _ _ _ _ h.1 h1 h2 h3 h4 fun k hk => h5 k hk.1, h.2.1, (h5 b h.2.1).trans h.2.2⟩ }
theorem mapCtx_kin (c : Ctx) (b : Nat) (es : Array MapEntry) (clock : Nat) : Kin c (mapCtx c b es clock) := ⟨rfl, rfl, rfl, rfl⟩
theorem HeapOK.hold {st : St} {e : Env} {w : World} {b : Nat} {es : Array MapEntry} {clock : Nat} (hh : HeapOK c e st w) (hb : w.heap[b]? = some (.map es clock)) (hbase : c.base ≤ b) (hnm : ¬ e.M b) : HeapOK (mapCtx c b es clock) ⟨e.β, e.ρ, fun k => e.M k ∨ k = b, e.D, e.l⟩ st w := by
  refine HeapOK.shift (e := e) (mapCtx_kin c b es clock) rfl rfl rfl rfl rfl rfl (fun g hg ho hM => ?_) (fun k hk => ?_) ⟨?_, .inr rfl, hb⟩ hh
  · rcases hM with hM | rfl
    · exact hg hM
    · rcases ho with ho | ⟨cs, T, fz, ho⟩ | ho
      · omega
      · rw [hb] at ho; cases ho
      · rw [hb] at ho; cases ho
  · rcases hk with hk | rfl
    · exact hh.mwr k hk
    · exact .inr hbase
  · have : (fun k => (e.M k ∨ k = b) ∧ k ≠ b) = e.M := by
      funext k
      refine propext ⟨fun h => h.1.resolve_right h.2, fun h => ⟨.inl h, fun hk => hnm (hk ▸ h)⟩⟩
    rw [this]; exact hh.out
def MapLaw (P : Program) (f : Nat) (es : Array MapEntry) (clock : Nat) : Prop := ∀ w : World, Calls P f #[] w fun en w' => ∃ b, en = .returned (.map (some b)) ∧ w.heap.size ≤ b ∧ w'.heap[b]? = some (.map es clock) ∧ Below w.heap.size w w'
theorem exec_call0 {a : Act} {w : World} {o : Oper} {tys : Array TypeId} {f : Nat} {fn : Func} (ho : o.op = .call ⟨.value (.func f), #[], tys⟩) (hf : P.funcs[f]? = some fn) (hb : fn.body.isSome = true) (hname : (fn.name == "runtime.NumGoroutine") = false) :
    (execOp a.eval o).run P w = .ok (.enter f #[]) w := by
  have hb' : fn.body ≠ none := by intro h'; rw [h'] at hb; cases hb
  have hne : fn.name ≠ "runtime.NumGoroutine" := by simpa using hname
  have hfe : a.eval (.func f) = .func (.func f) #[] #[] := rfl
  simp only [execOp, ho, Go.resolve, hfe, Deferred.ofValue, invoke, callFunc]
  simp [hf, hne, hb']
def LookLaw (P : Program) (T : TypeId) (es : Array MapEntry) (clock : Nat) (s : ByteArray) (n : Int) (ok : Bool) : Prop := ∀ (w : World) (b : Nat), w.heap[b]? = some (.map es clock) → (Instr.lookup T (.map (some b)) (.string s) true).run P w = .ok (.tuple #[.int .i64 n, .bool ok]) w
end
end Go.X

namespace Go.X
open Go.RowKit

section
variable {P : Program} {c : Ctx}
theorem HeapOK.shiftY {c' : Ctx} {ts : List AV} {bs : List (Option Box)} {rs : List (Option Row)} {ys : List (List AV)} {pn : List AV} {e e' : Env} {w : World} (ys' : List (List AV)) (hk : Kin c c') (hβ : e'.β = e.β) (hρ : e'.ρ = e.ρ) (hl : e'.l = e.l) (hlc : c'.l = c.l) (hD : e'.D = e.D) (hpv : c'.pv = c.pv)
    (hM : ∀ g, ¬ e.M g → (g < c.base ∨ (∃ cs T fz, w.heap[g]? = some (.cells cs T fz)) ∨ w.heap[g]? = some (.deferred (some []))) → ¬ e'.M g) (hmwr : ∀ k, e'.M k → c.wr k ∨ c.base ≤ k) (hJ : c'.J ys' e'.M w) (hh : HeapOK c e ⟨ts, bs, rs, ys, pn⟩ w) : HeapOK c' e' ⟨ts, bs, rs, ys', pn⟩ w := by
  have hf : Frame c' w := ⟨by rw [hk.w0]; exact hh.frame.os, by rw [hk.w0]; exact hh.frame.tape, by rw [hk.w0]; exact hh.frame.output, by rw [hk.w0]; exact hh.frame.size, fun k h1 h2 => by
    rw [hk.w0]; exact hh.frame.block k (by rw [← hk.base]; exact h1) (by rw [← hk.wr]; exact h2)⟩
  have hm : ∀ g, (∃ cs T fz, w.heap[g]? = some (.cells cs T fz)) → Mine c e.M g → Mine c' e'.M g := fun g hc h => by
    refine ⟨?_, hM g h.2 (.inr (.inl hc))⟩
    rw [hk.base, hk.wr]; exact h.1
  have hx : ∀ g, Fixed c e.M g → Fixed c' e'.M g := fun g h => ⟨by rw [hk.base]; exact h.1, by rw [hk.wr]; exact h.2.1, hM g h.2.2 (.inl h.1)⟩
  have hBB : ∀ i, blkB e' ⟨ts, bs, rs, ys', pn⟩ i = blkB e ⟨ts, bs, rs, ys, pn⟩ i := fun i => by simp only [blkB, hβ]
  have hRR : ∀ i, blkR e' ⟨ts, bs, rs, ys', pn⟩ i = blkR e ⟨ts, bs, rs, ys, pn⟩ i := fun i => by simp only [blkR, hρ]
  refine ⟨hf, fun i b' hi => ?_, fun i q hq => ?_, fun i j g h1 h2 => hh.injB i j g (by rw [← hBB]; exact h1) (by rw [← hBB]; exact h2), fun i j g h1 h2 => hh.injR i j g (by rw [← hRR]; exact h1) (by rw [← hRR]; exact h2),
    fun i j g h1 h2 => hh.apart i j g (by rw [← hBB]; exact h1) (by rw [← hRR]; exact h2), hJ, fun D hD' => hh.defd D (by rw [← hD]; exact hD'), fun D hD' => ⟨hM D (hh.defm D (by rw [← hD]; exact hD')).1 (.inr (.inr (hh.defd D (by rw [← hD]; exact hD')))), by rw [hk.base]; exact (hh.defm D (by rw [← hD]; exact hD')).2⟩,
    fun k h => by rw [hk.base, hk.wr]; exact hmwr k h, by rw [hl, hlc]; exact hh.yl, by rw [hD]; exact hh.nd, by rw [hpv]; exact RL_tmps _ _ (env_RL hβ hρ hl hh.pin)⟩
  · obtain ⟨⟨vs, h1, h2, h3⟩, h4⟩ := hh.box i b' hi
    refine ⟨⟨vs, by rw [hβ]; exact h1, RL_tmps _ _ (env_RL hβ hρ hl h2), h3⟩, ?_⟩
    rw [hβ]
    cases ho : b'.own <;> rw [ho] at h4
    · exact hx _ h4
    · exact hm _ ⟨_, _, _, h1⟩ h4
  · obtain ⟨h3, h4⟩ := hh.row i q hq
    refine ⟨h3, ?_⟩
    rw [hρ]
    cases ho : q.own <;> rw [ho] at h4
    · obtain ⟨a, cap, h5, h6, h7, h8⟩ := h4
      exact ⟨a, cap, h5, h6, h7, fun j v hj => by obtain ⟨b, h9, h10, h11⟩ := h8 j v hj; exact ⟨b, h9, hx _ h10, by rw [hk.w0]; exact h11⟩⟩
    · exact ⟨h4.1, fun g hg => hm g (by obtain ⟨_, cs, T, fz, h5⟩ := h4.1.lt hg; exact ⟨cs, T, fz, h5⟩) (h4.2 g hg)⟩

def seenOf (l : List AV) : Array Nat := (l.map fun v => match v with | .i _ n => n.toNat | _ => 0).toArray
theorem seenOf_push (l : List AV) (k : IntKind) (n : Nat) : seenOf (l ++ [.i k (n : Int)]) = (seenOf l).push n := by
  unfold seenOf
  simp
def ghJ (c : Ctx) (es : Array MapEntry) (clock : Nat) (ys : List (List AV)) (M : Nat → Prop) (w : World) : Prop :=
  match ys with
  | [] => c.J [] M w
  | [[.mp b]] => c.J [] (fun k => M k ∧ k ≠ b) w ∧ M b ∧ w.heap[b]? = some (.map es clock)
  | [[.mp b, .pt i], seen] => c.J [] (fun k => (M k ∧ k ≠ b) ∧ k ≠ i) w ∧ (M b ∧ M i) ∧ b ≠ i ∧ w.heap[b]? = some (.map es clock) ∧ w.heap[i]? = some (.mapIter (some b) clock (seenOf seen) clock)
  | _ => False
def ghCtx (c : Ctx) (es : Array MapEntry) (clock : Nat) : Ctx :=
  { c with
    J := ghJ c es clock
    Jlt := fun ys M w h k hk => by
      unfold ghJ at h
      split at h
      · exact c.Jlt _ _ _ h k hk
      · rename_i b
        by_cases hkb : k = b
        · subst hkb; exact lt_of_heap h.2.2
        · exact c.Jlt _ _ _ h.1 k ⟨hk, hkb⟩
      · rename_i b i seen
        by_cases hkb : k = b
        · subst hkb; exact lt_of_heap h.2.2.2.1
        · by_cases hki : k = i
          · subst hki; exact lt_of_heap h.2.2.2.2
          · exact c.Jlt _ _ _ h.1 k ⟨⟨hk, hkb⟩, hki⟩
      · exact h.elim
    Jst := fun ys M w w' h h1 h2 h3 h4 h5 => by
      unfold ghJ at h ⊢
      split at h
      · exact c.Jst _ _ _ _ h h1 h2 h3 h4 h5
      · exact ⟨c.Jst _ _ _ _ h.1 h1 h2 h3 h4 fun k hk => h5 k hk.1, h.2.1, (h5 _ h.2.1).trans h.2.2⟩
      · exact ⟨c.Jst _ _ _ _ h.1 h1 h2 h3 h4 fun k hk => h5 k hk.1.1, h.2.1, h.2.2.1, (h5 _ h.2.1.1).trans h.2.2.2.1, (h5 _ h.2.1.2).trans h.2.2.2.2⟩
      · exact h.elim }
theorem ghCtx_kin (c : Ctx) (es : Array MapEntry) (clock : Nat) : Kin c (ghCtx c es clock) := ⟨rfl, rfl, rfl, rfl⟩
def noG (st : St) : St := ⟨st.tmps, st.boxes, st.rows, [], st.pin⟩
theorem gh_free {es : Array MapEntry} {clock : Nat} {st : St} {e : Env} {a : Act} {w : World} (hh : HeapOK (ghCtx c es clock) e st w) (ht : TmpsOK (ghCtx c es clock) st e a) : ∃ e', HeapOK c e' (noG st) w ∧ TmpsOK c (noG st) e' a := by
  obtain ⟨ts, bs, rs, ys, pn⟩ := st
  have key : ∀ M' : Nat → Prop, (∀ k, M' k → e.M k) → c.J [] M' w → ∃ e', HeapOK c e' (noG ⟨ts, bs, rs, ys, pn⟩) w ∧ TmpsOK c (noG ⟨ts, bs, rs, ys, pn⟩) e' a := by
    intro M' hsub hJ
    refine ⟨⟨e.β, e.ρ, M', e.D, e.l⟩, HeapOK.shiftY (c := ghCtx c es clock) (e := e) [] ⟨rfl, rfl, rfl, rfl⟩ rfl rfl rfl rfl rfl rfl (fun g hg _ hM => hg (hsub g hM)) (fun k hk => hh.mwr k (hsub k hk)) hJ hh, ?_, ht.2⟩
    exact RL_tmps _ _ (env_RL (e := e) (e' := ⟨e.β, e.ρ, M', e.D, e.l⟩) rfl rfl rfl ht.1)
  have hout : ghJ c es clock ys e.M w := hh.out
  unfold ghJ at hout
  split at hout
  · exact key e.M (fun k hk => hk) hout
  · exact key _ (fun k hk => hk.1) hout.1
  · exact key _ (fun k hk => hk.1.1) hout.1
  · exact hout.elim
theorem tr_ghost (es : Array MapEntry) (clock : Nat) {code : Code} {st : St} {K : Exit → St → Prop} (hys : st.ys = []) (h : Tr P (ghCtx c es clock) code st (fun ex st' => K ex (noG st'))) : Tr P c code st K := by
  intro e a w hh ht
  obtain ⟨ts, bs, rs, ys, pn⟩ := st
  simp only at hys
  subst hys
  have hh' : HeapOK (ghCtx c es clock) e ⟨ts, bs, rs, [], pn⟩ w := HeapOK.shiftY (e := e) [] (ghCtx_kin c es clock) rfl rfl rfl rfl rfl rfl (fun g hg _ hM => hg hM) (fun k hk => hh.mwr k hk) hh.out hh
  refine wpIn_mono (h e a w hh' ht) (fun ex a' w' hq => ?_)
  have key : (∃ st1 e1, HeapOK (ghCtx c es clock) e1 st1 w' ∧ TmpsOK (ghCtx c es clock) st1 e1 a' ∧ K ex (noG st1)) → ∃ st1 e1, HeapOK c e1 st1 w' ∧ TmpsOK c st1 e1 a' ∧ K ex st1 := by
    rintro ⟨st1, e1, h1, h2, h3⟩
    obtain ⟨e2, h4, h5⟩ := gh_free h1 h2
    exact ⟨_, e2, h4, h5, h3⟩
  cases ex <;> first | exact hq | exact key hq
theorem tr_gmap {o : Oper} {tys : Array TypeId} {f d : Nat} {es : Array MapEntry} {clock : Nat} {fn : Func} {k : St → Prop} {ts : List AV} {bs : List (Option Box)} {rs : List (Option Row)} {pn : List AV} (hC : MapLaw P f es clock) (ho : o.op = .call ⟨.value (.func f), #[], tys⟩) (hd : o.dst = some d)
    (hf : P.funcs[f]? = some fn) (hb : fn.body.isSome = true) (hname : (fn.name == "runtime.NumGoroutine") = false)
    (h : ∀ b, k ⟨backSt.setAt ts d (.mp b), bs, rs, [[.mp b]], pn⟩) : TrOne P (ghCtx c es clock) o ⟨ts, bs, rs, [], pn⟩ k := by
  intro e a w K' Q hh ht hK
  refine wp_in (fun cl hcl => by rw [ho] at hcl; cases hcl) ?_
  unfold Oper.wp
  rw [exec_call0 ho hf hb hname]
  simp only [Oper.upon]
  refine (hC w).mono ?_
  rintro en w' ⟨b, rfl, hlt, hmap, hbel⟩
  have hh1 := hh.moved hbel
  have hnm : ¬ e.M b := fun hm => by have := hh.m_lt hm; omega
  have hbase : (ghCtx c es clock).base ≤ b := by have := hh.base_le; omega
  have hJ0 : c.J [] e.M w' := hh1.out
  have hh2 : HeapOK (ghCtx c es clock) ⟨e.β, e.ρ, fun k => e.M k ∨ k = b, e.D, e.l⟩ ⟨ts, bs, rs, [[.mp b]], pn⟩ w' := by
    refine HeapOK.shiftY (e := e) [[.mp b]] ⟨rfl, rfl, rfl, rfl⟩ rfl rfl rfl rfl rfl rfl (fun g hg ho hM => ?_) (fun k hk => ?_) ?_ hh1
    · rcases hM with hM | rfl
      · exact hg hM
      · rcases ho with ho | ⟨cs, T, fz, ho⟩ | ho
        · omega
        · rw [hmap] at ho; cases ho
        · rw [hmap] at ho; cases ho
    · rcases hk with hk | rfl
      · exact hh.mwr k hk
      · exact .inr hbase
    · show c.J [] (fun k => (e.M k ∨ k = b) ∧ k ≠ b) w' ∧ _
      have : (fun k => (e.M k ∨ k = b) ∧ k ≠ b) = e.M := by
        funext k
        refine propext ⟨fun h => h.1.resolve_right h.2, fun h => ⟨.inl h, fun hk => hnm (hk ▸ h)⟩⟩
      rw [this]
      exact ⟨hJ0, .inr rfl, hmap⟩
  refine hK _ ⟨e.β, e.ρ, fun k => e.M k ∨ k = b, e.D, e.l⟩ _ w' (HeapOK_tmps hh2) ⟨?_, by rw [hd]; exact ht.2⟩ (h b)
  have := put_dst (a := a) (av := .mp b) (v := .map (some b)) o.dst (env_RL (e := e) (e' := ⟨e.β, e.ρ, fun k => e.M k ∨ k = b, e.D, e.l⟩) rfl rfl rfl ht.1) rfl
  rw [hd] at this ⊢
  exact RL_tmps _ _ this
theorem tr_glook {b : Nat} {es : Array MapEntry} {clock : Nat} {o : Oper} {x y : Operand} {T : TypeId} {s : ByteArray} {n : Int} {ok : Bool} {k : St → Prop} {ts : List AV} {bs : List (Option Box)} {rs : List (Option Row)} {pn : List AV} (hC : LookLaw P T es clock s n ok) (ho : o.op = .lookup T x y true) (hx : opnd ts x = .mp b) (hy : opnd ts y = .s s)
    (h : k ⟨match o.dst with | some d => backSt.setAt ts d (.tup [.i .i64 n, .b ok]) | none => ts, bs, rs, [[.mp b]], pn⟩) : TrOne P (ghCtx c es clock) o ⟨ts, bs, rs, [[.mp b]], pn⟩ k := by
  intro e a w K' Q hh ht hK
  have hxR := opnd_R ht x
  rw [hx] at hxR
  have hyR := opnd_R ht y
  rw [hy] at hyR
  have hmap : w.heap[b]? = some (.map es clock) := hh.out.2.2
  refine wp_in (fun cl hcl => by rw [ho] at hcl; cases hcl) ?_
  unfold Oper.wp
  have hrun := hC w b hmap
  have hxv : a.eval x = .map (some b) := hxR
  have hyv : a.eval y = .string s := hyR
  have he : (execOp a.eval o).run P w = .ok (.value (.tuple #[.int .i64 n, .bool ok])) w := by
    simp only [execOp, ho, hxv, hyv]
    simp [hrun, Result.andThen]
  rw [he]
  simp only [Oper.upon]
  refine hK _ e _ _ (HeapOK_tmps hh) ⟨?_, by cases o.dst <;> exact ht.2⟩ h
  have := put_dst (a := a) (av := .tup [.i .i64 n, .b ok]) (v := .tuple #[.int .i64 n, .bool ok]) o.dst ht.1 ⟨[.int .i64 n, .bool ok], rfl, _, _, rfl, rfl, _, _, rfl, rfl, rfl⟩
  exact RL_tmps _ _ this
end
end Go.X

namespace Go.X
open Go.RowKit

section
variable {P : Program} {c : Ctx}
theorem run_next_at (w : World) (ty : TypeId) (bm i : Nat) (seen : Array Nat) (es : Array MapEntry) (clock : Nat) (hb : w.heap[bm]? = some (.map es clock)) (hi : w.heap[i]? = some (.mapIter (some bm) clock seen clock)) (hold : ∀ x ∈ es.toList, x.born < clock) :
    ((leftOf es seen).size = 0 ∧ (Instr.next (.pointer (some ⟨i, 0, none⟩)) false ty).run P w = .ok (.tuple #[.bool false]) w) ∨
    ∃ e ∈ (leftOf es seen).toList, ∃ w1 : World, Below w.heap.size w w1 ∧ (Instr.next (.pointer (some ⟨i, 0, none⟩)) false ty).run P w = .ok (.tuple #[.bool true, e.key, e.val]) (w1.putObj i (.mapIter (some bm) clock (seen.push e.born) clock)) := by
  simp only [Instr.next, getObj, Sem.run_bind, Sem.run, hi, hb, Result.andThen, next_test_false seen es clock clock hold (Nat.le_refl _), Bool.false_eq_true, if_false]
  unfold leftOf
  have hmem : ∀ x ∈ (Array.filter (fun e => !seen.contains e.born) es).toList, x.born < clock := fun x hx => hold x (by simp at hx ⊢; exact hx.1)
  generalize Array.filter (fun e => !seen.contains e.born) es = L at hmem ⊢
  have e1 : L.filter (fun x => decide (x.born < clock)) = L := Array.filter_eq_self.2 (fun x hx => by simpa using hmem x (by simpa using hx))
  have e2 : L.filter (fun x => decide (x.born ≥ clock)) = #[] := by
    rw [Array.filter_eq_empty_iff]
    intro x hx
    have := hmem x (by simpa using hx)
    simp
    omega
  simp only [e1, e2, Array.append_empty]
  by_cases h0 : L.size = 0
  · left
    have : L = #[] := Array.eq_empty_of_size_eq_zero h0
    subst this
    refine ⟨rfl, ?_⟩
    simp [choose, Sem.run, Question.forced]
  · right
    have hne : L.isEmpty = false := by simp [Array.isEmpty, h0]
    simp only [hne, Bool.false_eq_true, if_false, Array.empty_append, Array.size_map]
    have hch : ∃ (j : Nat) (w1 : World), j < L.size ∧ (w1 = w ∨ w1 = w.drew) ∧ (choose (Question.mapNext L.size)).run P w = .ok j w1 := by
      by_cases hf : L.size ≤ 1
      · exact ⟨0, w, by omega, .inl rfl, by simp [choose, Sem.run, Question.forced, hf]⟩
      · exact ⟨_, w.drew, Nat.mod_lt _ (by omega), .inr rfl, by
          simp only [choose, Sem.run, Question.forced, decide_eq_true_eq, hf, if_false, Question.cut]
          rfl⟩
    obtain ⟨j, w1, hj, hal, hrun⟩ := hch
    have hw1 : w1.heap = w.heap := by rcases hal with rfl | rfl <;> rfl
    have hbel : Below w.heap.size w w1 := by
      rcases hal with rfl | rfl
      · exact Below.refl _ _
      · exact ⟨rfl, rfl, rfl, Nat.le_refl _, fun _ _ => rfl⟩
    refine ⟨L[j], by simp, w1, hbel, ?_⟩
    have hset : ∀ (o' : Obj), (setObj i o').run P w1 = .ok () (w1.putObj i o') := fun o' => by
      have hi1 : w1.heap[i]? = some (.mapIter (some bm) clock seen clock) := by rw [hw1]; exact hi
      simp only [setObj, Sem.run, hi1]
      rfl
    simp only [hrun, Array.getElem?_map, Array.getElem?_eq_getElem hj, Option.map_some, Sem.run_bind, hset, Result.andThen]
    rfl
theorem tr_grange {b d : Nat} {es : Array MapEntry} {clock : Nat} {o : Oper} {x : Operand} {T kt et : TypeId} {k : St → Prop} {ts : List AV} {bs : List (Option Box)} {rs : List (Option Row)} {pn : List AV} (hT : P.underlying T = some (.map kt et)) (ho : o.op = .range T x) (hd : o.dst = some d) (hx : opnd ts x = .mp b)
    (h : ∀ i, k ⟨backSt.setAt ts d (.pt i), bs, rs, [[.mp b, .pt i], []], pn⟩) : TrOne P (ghCtx c es clock) o ⟨ts, bs, rs, [[.mp b]], pn⟩ k := by
  intro e a w K' Q hh ht hK
  have hxR := opnd_R ht x
  rw [hx] at hxR
  have hout : c.J [] (fun k => e.M k ∧ k ≠ b) w ∧ e.M b ∧ w.heap[b]? = some (.map es clock) := hh.out
  have hmap := hout.2.2
  refine wp_in (fun cl hcl => by rw [ho] at hcl; cases hcl) ?_
  unfold Oper.wp
  have hrun := run_range_map (P := P) w T kt et b es clock hT hmap
  have hxv : a.eval x = .map (some b) := hxR
  let w' := w.alloc (.mapIter (some b) clock #[] clock)
  have he : (execOp a.eval o).run P w = .ok (.value (.pointer (some ⟨w.heap.size, 0, none⟩))) w' := by
    simp only [execOp, ho, hxv]
    simp [hrun, Result.andThen, w']
  rw [he]
  simp only [Oper.upon]
  have hbel : Below w.heap.size w w' := (Below.refl _ _).alloc (Nat.le_refl _) _
  have hh1 := hh.moved hbel
  have hi : w'.heap[w.heap.size]? = some (.mapIter (some b) clock #[] clock) := heap_alloc_new w _
  have hb' : w'.heap[b]? = some (.map es clock) := (hbel.block b (lt_of_heap hmap)).trans hmap
  have hnm : ¬ e.M w.heap.size := fun hm => by have := hh.m_lt hm; omega
  have hbne : b ≠ w.heap.size := by have := lt_of_heap hmap; omega
  have hout1 : c.J [] (fun k => e.M k ∧ k ≠ b) w' := (show c.J [] (fun k => e.M k ∧ k ≠ b) w' ∧ _ from hh1.out).1
  have hh2 : HeapOK (ghCtx c es clock) ⟨e.β, e.ρ, fun k => e.M k ∨ k = w.heap.size, e.D, e.l⟩ ⟨ts, bs, rs, [[.mp b, .pt w.heap.size], []], pn⟩ w' := by
    refine HeapOK.shiftY (e := e) [[.mp b, .pt w.heap.size], []] ⟨rfl, rfl, rfl, rfl⟩ rfl rfl rfl rfl rfl rfl (fun g hg ho hM => ?_) (fun k hk => ?_) ?_ hh1
    · rcases hM with hM | rfl
      · exact hg hM
      · rcases ho with ho | ⟨cs, T, fz, ho⟩ | ho
        · have := hh.base_le
          have h2 : w.heap.size < (ghCtx c es clock).base := ho
          omega
        · rw [hi] at ho; cases ho
        · rw [hi] at ho; cases ho
    · rcases hk with hk | rfl
      · exact hh.mwr k hk
      · exact .inr hh.base_le
    · show c.J [] (fun k => ((e.M k ∨ k = w.heap.size) ∧ k ≠ b) ∧ k ≠ w.heap.size) w' ∧ _
      have : (fun k => ((e.M k ∨ k = w.heap.size) ∧ k ≠ b) ∧ k ≠ w.heap.size) = fun k => e.M k ∧ k ≠ b := by
        funext k
        refine propext ⟨fun h => ⟨h.1.1.resolve_right h.2, h.1.2⟩, fun h => ⟨⟨.inl h.1, h.2⟩, fun hk => hnm (hk ▸ h.1)⟩⟩
      rw [this]
      exact ⟨hout1, ⟨.inl hout.2.1, .inr rfl⟩, hbne, hb', hi⟩
  refine hK _ ⟨e.β, e.ρ, fun k => e.M k ∨ k = w.heap.size, e.D, e.l⟩ _ w' (HeapOK_tmps hh2) ⟨?_, by rw [hd]; exact ht.2⟩ (h w.heap.size)
  have := put_dst (a := a) (av := .pt w.heap.size) (v := .pointer (some ⟨w.heap.size, 0, none⟩)) o.dst (env_RL (e := e) (e' := ⟨e.β, e.ρ, fun k => e.M k ∨ k = w.heap.size, e.D, e.l⟩) rfl rfl rfl ht.1) rfl
  rw [hd] at this ⊢
  exact RL_tmps _ _ this
theorem tr_gnext {b i d : Nat} {es : Array MapEntry} {clock : Nat} {o : Oper} {x : Operand} {seen : List AV} {k : St → Prop} {ts : List AV} {bs : List (Option Box)} {rs : List (Option Row)} {pn : List AV} (hold : ∀ x ∈ es.toList, x.born < clock) (hkv : ∀ x ∈ es.toList, ∃ s n, x.key = .string s ∧ x.val = .int .i64 n) (ho : o.op = .next x false) (hd : o.dst = some d) (hx : opnd ts x = .pt i)
    (h0 : (leftOf es (seenOf seen)).size = 0 → k ⟨backSt.setAt ts d (.tup [.b false]), bs, rs, [[.mp b, .pt i], seen], pn⟩)
    (h1 : ∀ x s n, x ∈ (leftOf es (seenOf seen)).toList → x.key = .string s → x.val = .int .i64 n → k ⟨backSt.setAt ts d (.tup [.b true, .s s, .i .i64 n]), bs, rs, [[.mp b, .pt i], seen ++ [.i .i64 (x.born : Int)]], pn⟩) : TrOne P (ghCtx c es clock) o ⟨ts, bs, rs, [[.mp b, .pt i], seen], pn⟩ k := by
  intro e a w K' Q hh ht hK
  have hxR := opnd_R ht x
  rw [hx] at hxR
  have hout : c.J [] (fun k => (e.M k ∧ k ≠ b) ∧ k ≠ i) w ∧ (e.M b ∧ e.M i) ∧ b ≠ i ∧ w.heap[b]? = some (.map es clock) ∧ w.heap[i]? = some (.mapIter (some b) clock (seenOf seen) clock) := hh.out
  obtain ⟨hJ, ⟨hMb, hMi⟩, hbi, hmap, hit⟩ := hout
  refine wp_in (fun cl hcl => by rw [ho] at hcl; cases hcl) ?_
  unfold Oper.wp
  have hxv : a.eval x = .pointer (some ⟨i, 0, none⟩) := hxR
  rcases run_next_at (P := P) w o.type b i (seenOf seen) es clock hmap hit hold with ⟨hz, hrun⟩ | ⟨x0, hx0, w1, hbel, hrun⟩
  · have he : (execOp a.eval o).run P w = .ok (.value (.tuple #[.bool false])) w := by
      simp only [execOp, ho, hxv]
      simp [hrun, Result.andThen]
    rw [he]
    simp only [Oper.upon]
    refine hK _ e _ _ (HeapOK_tmps hh) ⟨?_, by rw [hd]; exact ht.2⟩ (h0 hz)
    have := put_dst (a := a) (av := .tup [.b false]) (v := .tuple #[.bool false]) o.dst ht.1 ⟨[.bool false], rfl, _, _, rfl, rfl, rfl⟩
    rw [hd] at this ⊢
    exact RL_tmps _ _ this
  · have hin : x0 ∈ es.toList := by
      unfold leftOf at hx0
      simp at hx0 ⊢
      exact hx0.1
    obtain ⟨s, n, hk1, hk2⟩ := hkv x0 hin
    have he : (execOp a.eval o).run P w = .ok (.value (.tuple #[.bool true, .string s, .int .i64 n])) (w1.putObj i (.mapIter (some b) clock ((seenOf seen).push x0.born) clock)) := by
      simp only [execOp, ho, hxv]
      simp [hrun, Result.andThen, hk1, hk2]
    rw [he]
    simp only [Oper.upon]
    have hh1 := hh.moved hbel
    have hmap1 : w1.heap[b]? = some (.map es clock) := (hbel.block b (lt_of_heap hmap)).trans hmap
    have hit1 : w1.heap[i]? = some (.mapIter (some b) clock (seenOf seen) clock) := (hbel.block i (lt_of_heap hit)).trans hit
    have hJ1 : c.J [] (fun k => (e.M k ∧ k ≠ b) ∧ k ≠ i) w1 := (show c.J [] (fun k => (e.M k ∧ k ≠ b) ∧ k ≠ i) w1 ∧ _ from hh1.out).1
    have hh2 := hh1.looped (l := i) (o := .mapIter (some b) clock ((seenOf seen).push x0.born) clock) (ys := [[.mp b, .pt i], seen ++ [.i .i64 (x0.born : Int)]]) hMi (fun D hD h => by
      have h2 := hh1.defd D hD
      rw [h, hit1] at h2; cases h2) (by
      show c.J [] (fun k => (e.M k ∧ k ≠ b) ∧ k ≠ i) _ ∧ _
      refine ⟨c.Jst _ _ _ _ hJ1 rfl rfl rfl (by simp) fun k hk => World.putObj_heap_other hk.2, ⟨hMb, hMi⟩, hbi, (World.putObj_heap_other hbi).trans hmap1, ?_⟩
      rw [World.putObj_heap_same (lt_of_heap hit1), seenOf_push])
    refine hK _ e _ _ (HeapOK_tmps hh2) ⟨?_, by rw [hd]; exact ht.2⟩ (h1 x0 s n hx0 hk1 hk2)
    have := put_dst (a := a) (av := .tup [.b true, .s s, .i .i64 n]) (v := .tuple #[.bool true, .string s, .int .i64 n]) o.dst ht.1 ⟨[.bool true, .string s, .int .i64 n], rfl, _, _, rfl, rfl, _, _, rfl, rfl, _, _, rfl, rfl, rfl⟩
    rw [hd] at this ⊢
    exact RL_tmps _ _ this
end
end Go.X

namespace Go.X
open Go.RowKit

theorem resolveF_a {bs : List (Option Box)} {rs : List (Option Row)} {n : Nat} {v u : AV} (h : resolveF bs rs n v = some (.a u)) : v = u := by
  cases n with
  | zero => simp [resolveF] at h
  | succ n =>
    cases v <;> simp only [resolveF] at h
    all_goals first
      | (cases h; rfl)
      | (cases h; done)
      | (split at h <;> first | (cases h; rfl) | (cases h; done) | (split at h <;> first | (cases h; rfl) | (cases h; done)))
theorem resolveF_agg {bs : List (Option Box)} {rs : List (Option Row)} {n : Nat} {v : AV} {l' : List RV} (h : resolveF bs rs n v = some (.agg l')) : ∃ l m, v = .agg l ∧ resolveFL bs rs m l = some l' := by
  cases n with
  | zero => simp [resolveF] at h
  | succ n =>
    cases v with
    | agg l =>
      simp only [resolveF] at h
      split at h
      · rename_i l2 h2; cases h; exact ⟨l, n, rfl, h2⟩
      · cases h
    | _ =>
      simp only [resolveF] at h
      first
        | (cases h; done)
        | (split at h <;> first | (cases h; done) | (split at h <;> cases h))
theorem resolveFL_pop {bs : List (Option Box)} {rs : List (Option Row)} {n : Nat} {l : List AV} {r : RV} {rl : List RV} (h : resolveFL bs rs n l = some (r :: rl)) : ∃ x l' m, l = x :: l' ∧ resolveF bs rs m x = some r ∧ resolveFL bs rs m l' = some rl := by
  cases n with
  | zero => simp [resolveFL] at h
  | succ n =>
    cases l with
    | nil => simp only [resolveFL] at h; cases h
    | cons x l' =>
      simp only [resolveFL] at h
      split at h
      · rename_i r1 h1
        split at h
        · rename_i r2 h2; cases h; exact ⟨x, l', n, rfl, h1, h2⟩
        · cases h
      · cases h
theorem resolveFL_end {bs : List (Option Box)} {rs : List (Option Row)} {n : Nat} {l : List AV} (h : resolveFL bs rs n l = some []) : l = [] := by
  cases n with
  | zero => simp [resolveFL] at h
  | succ n =>
    cases l with
    | nil => rfl
    | cons x l' =>
      simp only [resolveFL] at h
      split at h
      · split at h <;> cases h
      · cases h

theorem row_slice {c : Ctx} {e : Env} {w : World} {id : Nat} {r : Row} (h : RowOK c e w id r) : ∃ a n cap, e.ρ id = .slice a n cap := by
  obtain ⟨_, h⟩ := h
  cases ho : r.own <;> rw [ho] at h
  · obtain ⟨a, cap, h, _⟩ := h
    exact ⟨a, _, cap, h⟩
  · rcases h.1 with ⟨h, _⟩ | ⟨g, cap, cur, fz, h, _⟩
    · exact ⟨_, _, _, h⟩
    · exact ⟨_, _, _, h⟩
def cIdC : Con
  | [.agg [.a (.i .i64 v0), .a (.s v1), .a (.i .i64 v2), .a (.i .i64 v3), .a (.i .i64 v4), .row id _, .a (.i .i64 v6)]] => some ⟨[], .agg [.a (.i .i64 v0), .a (.s v1), .a (.i .i64 v2), .a (.i .i64 v3), .a (.i .i64 v4), .a (.row id), .a (.i .i64 v6)], [], []⟩
  | _ => none
theorem con_id {P : Program} {G : Nat → World → Prop} {f : FuncId} {fn : Func} (hf : P.funcs[f]? = some fn) (hb : fn.body.isSome = true) (hname : (fn.name == "runtime.NumGoroutine") = false)
    (hs : ∀ (v0 : Int) (v1 : ByteArray) (v2 v3 v4 v6 : Int) (a : Option Addr) (n cap : Nat) (w : World), Calls P f #[.agg #[.int .i64 v0, .string v1, .int .i64 v2, .int .i64 v3, .int .i64 v4, .slice a n cap, .int .i64 v6]] w fun e w' => e = .returned (.agg #[.int .i64 v0, .string v1, .int .i64 v2, .int .i64 v3, .int .i64 v4, .slice a n cap, .int .i64 v6]) ∧ Below w.heap.size w w') : ConOK P G f cIdC := by
  intro c e st w avs rvs cr vals fb fr hG hh hres hargs hcr hpre _ _
  refine ⟨⟨fn, hf, hb, hname⟩, ?_⟩
  unfold cIdC at hcr
  split at hcr
  · rename_i v0 v1 v2 v3 v4 id r v6
    cases hcr
    obtain ⟨v, rfl, h1⟩ := allRes1 hres
    obtain ⟨x, xs, rfl, hx, hxs⟩ := hargs
    simp only [RL] at hxs
    subst hxs
    unfold resolve at h1
    obtain ⟨l, m, rfl, h2⟩ := resolveF_agg h1
    obtain ⟨a0, l, m, rfl, p0, h2⟩ := resolveFL_pop h2
    obtain ⟨a1, l, m, rfl, p1, h2⟩ := resolveFL_pop h2
    obtain ⟨a2, l, m, rfl, p2, h2⟩ := resolveFL_pop h2
    obtain ⟨a3, l, m, rfl, p3, h2⟩ := resolveFL_pop h2
    obtain ⟨a4, l, m, rfl, p4, h2⟩ := resolveFL_pop h2
    obtain ⟨a5, l, m, rfl, p5, h2⟩ := resolveFL_pop h2
    obtain ⟨a6, l, m, rfl, p6, h2⟩ := resolveFL_pop h2
    obtain rfl := resolveFL_end h2
    obtain rfl := resolveF_a p0
    obtain rfl := resolveF_a p1
    obtain rfl := resolveF_a p2
    obtain rfl := resolveF_a p3
    obtain rfl := resolveF_a p4
    obtain ⟨rfl, p7⟩ := resolveF_row p5
    obtain rfl := resolveF_a p6
    obtain ⟨ya, yn, yc, hy⟩ := row_slice (hh.row id r p7)
    have hx' := hx
    obtain ⟨vs, rfl, x0, vs0, rfl, q0, x1, vs1, rfl, q1, x2, vs2, rfl, q2, x3, vs3, rfl, q3, x4, vs4, rfl, q4, x5, vs5, rfl, q5, x6, vs6, rfl, q6, q7⟩ := hx
    simp only [RL] at q7
    subst q7
    simp only [R] at q0 q1 q2 q3 q4 q5 q6
    subst q0; subst q1; subst q2; subst q3; subst q4; subst q6
    obtain ⟨q5, q8⟩ := q5
    rw [hy] at q8
    subst q8
    refine (hs v0 v1 v2 v3 v4 v6 ya yn yc w).mono ?_
    rintro en w' ⟨rfl, hbl⟩
    exact ⟨_, e, rfl, hh.moved hbl, pres_refl, hx'⟩
  · cases hcr
end Go.X

namespace Go.X
open Go.RowKit

section
variable {P : Program}
theorem run_mapPut (w : World) {mty kt et : TypeId} {r clock : Nat} {es : Array MapEntry} {s : ByteArray} {val : Value} (hm : P.underlying mty = some (.map kt et)) (hk : P.underlying kt = some .string) (hb : w.heap[r]? = some (.map es clock)) (hn : Instr.findNow .string (.string s) es.toList 0 = some none) :
    (Instr.mapUpdate mty (.map (some r)) (.string s) val).run P w = .ok () (w.putObj r (.map (es.push ⟨.string s, val, clock⟩) (clock + 1))) := by
  have hc : (Instr.checkKey false 10000 kt (.string s)).run P w = .ok () w := MapKept.run_checkKey (k := .string s) hk (by simp [MapKept.IsKey]) false 9999
  simp [Instr.mapUpdate, run_underlying hm, MapKept.run_getObj_map hb, hc, MapKept.run_findKey hk hn, MapKept.run_setObj_map _ hb, Result.andThen, World.putObj]
theorem look_law {T kt et : TypeId} {es : Array MapEntry} {clock : Nat} {s : ByteArray} {n : Int} {ok : Bool} (hT : P.underlying T = some (.map kt et)) (hk : P.underlying kt = some .string) (hz : ∀ w, (zeroValue et).run P w = .ok (.int .i64 0) w)
    (h : ∃ o, Instr.findNow .string (.string s) es.toList 0 = some o ∧ (match o with | some (_, v) => v = .int .i64 n ∧ ok = true | none => n = 0 ∧ ok = false)) : LookLaw P T es clock s n ok := by
  intro w b hb
  obtain ⟨o, hf, ho⟩ := h
  have hc : ∀ e, (Instr.checkKey e 10000 kt (.string s)).run P w = .ok () w := fun e => MapKept.run_checkKey (k := .string s) hk (by simp [MapKept.IsKey]) e 9999
  cases o with
  | some iv =>
    obtain ⟨i, v⟩ := iv
    obtain ⟨rfl, rfl⟩ := ho
    simp [Instr.lookup, run_underlying hT, MapKept.run_getObj_map hb, hc, MapKept.run_findKey hk hf, Result.andThen]
  | none =>
    obtain ⟨rfl, rfl⟩ := ho
    simp [Instr.lookup, run_underlying hT, MapKept.run_getObj_map hb, hc, MapKept.run_findKey hk hf, hz, Result.andThen]
end
end Go.X

namespace Go.X
open Go

def bAt (b : List Int) (n : Int) : Int := b.getD n.toNat 0
theorem bytesL_getD (p : ByteArray) (n : Nat) : (bytesL p).getD n 0 = byteAt p n := by
  unfold bytesL byteAt
  rw [List.getD_eq_getElem?_getD, List.getElem?_map, List.getD_eq_getElem?_getD]
  cases p.data.toList[n]? <;> rfl
theorem bAt_bytes (p : ByteArray) (n : Int) : bAt (bytesL p) n = byteAt p n.toNat := bytesL_getD p _
def dCount (b : List Int) (s : Int) : Nat → Int → Int
  | 0, _ => 0
  | k + 1, lo => (if bAt b lo = 46 then 0 else 1) + dCount b s k (lo + s)
structure Sqr (n : Int) : Prop where
  lo : 0 ≤ n
  hi : n < 90
theorem Sqr.is {n : Int} (h : Sqr n) : spIsSquare n = true := isSquare_iff.2 ⟨h.lo, h.hi⟩
end Go.X

namespace Go.X
open Go
end Go.X

namespace Go.X
open Go

theorem byteAt_lt (p : ByteArray) (n : Nat) : ∃ m : Nat, m < 256 ∧ byteAt p n = (m : Int) := ⟨(p.data.toList.getD n 0).toNat, UInt8.toNat_lt _, rfl⟩
def sqs : List Int := (List.range 90).map Int.ofNat
theorem mem_sqs {x : Int} : x ∈ sqs ↔ 0 ≤ x ∧ x < 90 := by
  unfold sqs
  rw [List.mem_map]
  constructor
  · rintro ⟨n, hn, rfl⟩; rw [List.mem_range] at hn; simp; omega
  · intro h; exact ⟨x.toNat, by rw [List.mem_range]; omega, by simp; omega⟩
end Go.X

namespace Go.X
open Go

theorem wrap_u8 {n : Nat} (h : n < 256) : IntKind.u8.wrap (n : Int) = n := by
  unfold IntKind.wrap
  simp only [IntKind.signed, IntKind.bits]
  simp
  omega
theorem cell_small : ∀ n : Nat, n < 256 → 122 < n → spIsCell (n : Int) = false := by decide +kernel
theorem bad_small {n : Nat} (h : n < 256) : spBad n = !spIsCell (n : Int) := by
  unfold spBad
  rw [wrap_u8 h]
  by_cases h1 : (122 : Int) < n
  · rw [cell_small n h (by omega)]; simp
  · simp [h1]
theorem byteAt_get {p : ByteArray} {n : Nat} (h : n < p.size) : byteAt p n = (((p[n]'h).toNat : Nat) : Int) := by
  unfold byteAt
  have : p.data.toList.getD n 0 = p[n]'h := by
    have h' : n < p.data.toList.length := h
    rw [List.getD_eq_getElem?_getD, List.getElem?_eq_getElem h']; rfl
  rw [this]
theorem idx_cells (p : ByteArray) : ∀ (f pos : Nat), p.size - pos ≤ f → (Lib.idxFuncFrom spBad true p f pos < 0 ↔ ∀ n, pos ≤ n → n < p.size → spIsCell (byteAt p n) = true) := by
  intro f
  induction f with
  | zero => intro pos h; simp only [Lib.idxFuncFrom]; exact ⟨fun _ n h1 h2 => by omega, fun _ => by decide⟩
  | succ f ih =>
    intro pos h
    unfold Lib.idxFuncFrom
    by_cases hp : pos < p.size
    · rw [if_pos hp]
      have hb := byteAt_get hp
      have h256 : (p[pos]'hp).toNat < 256 := UInt8.toNat_lt _
      by_cases ha : (p[pos]'hp).toNat < 128
      · rw [Go.decode_ascii p pos hp ha]
        simp only
        rw [bad_small h256]
        cases hc : spIsCell (((p[pos]'hp).toNat : Nat) : Int) with
        | true =>
          rw [if_neg (by simp), ih (pos + 1) (by omega)]
          constructor
          · intro hall n h1 h2
            by_cases hn : n = pos
            · subst hn; rw [hb, hc]
            · exact hall n (by omega) h2
          · intro hall n h1 h2; exact hall n (by omega) h2
        | false =>
          rw [if_pos (by simp)]
          constructor
          · intro hlt; omega
          · intro hall; have := hall pos (Nat.le_refl _) hp; rw [hb, hc] at this; cases this
      · have hd := Go.decode_high p pos hp (by omega)
        have hbad : spBad (Utf8.decode p pos).1 = true := by
          unfold spBad
          rw [Bool.or_eq_true]
          left
          simp only [decide_eq_true_eq]; omega
        rw [hbad, if_pos rfl]
        constructor
        · intro hlt; omega
        · intro hall
          have := hall pos (Nat.le_refl _) hp
          rw [hb, cell_small _ h256 (by omega)] at this; cases this
    · rw [if_neg hp]
      exact ⟨fun _ n h1 h2 => by omega, fun _ => by decide⟩
theorem is_iff {p : ByteArray} : spIs p = true ↔ p.size = 90 ∧ ∀ n, n < 90 → spIsCell (byteAt p n) = true := by
  unfold spIs Lib.idxFunc
  rw [Bool.and_eq_true, beq_iff_eq, decide_eq_true_eq, idx_cells p _ _ (by omega)]
  constructor
  · rintro ⟨h1, h2⟩
    have : p.size = 90 := by omega
    exact ⟨this, fun n hn => h2 n (Nat.zero_le _) (by omega)⟩
  · rintro ⟨h1, h2⟩
    exact ⟨by omega, fun n _ hn => h2 n (by omega)⟩

theorem bytesOf_list (l : List Int) : (bytesOf l).data.toList = l.map fun n => UInt8.ofNat n.toNat := by
  have key : ∀ (l : List Int) (acc : ByteArray), (l.foldl (fun r n => r.push (UInt8.ofNat n.toNat)) acc).data.toList = acc.data.toList ++ l.map fun n => UInt8.ofNat n.toNat := by
    intro l
    induction l with
    | nil => intro acc; simp
    | cons x l ih => intro acc; rw [List.foldl_cons, ih]; simp
  unfold bytesOf
  rw [key]; rfl
theorem bytesL_of {l : List Int} (h : ∀ n ∈ l, 0 ≤ n ∧ n < 256) : bytesL (bytesOf l) = l := by
  unfold bytesL
  rw [bytesOf_list, List.map_map]
  have : ∀ x ∈ l, ((fun b : UInt8 => (b.toNat : Int)) ∘ fun n : Int => UInt8.ofNat n.toNat) x = x := by
    intro x hx
    have := h x hx
    simp only [Function.comp]
    rw [UInt8.toNat_ofNat']
    omega
  rw [List.map_congr_left this, List.map_id']
theorem bytesL_bound (p : ByteArray) : ∀ n ∈ bytesL p, 0 ≤ n ∧ n < 256 := by
  intro n hn
  unfold bytesL at hn
  rw [List.mem_map] at hn
  obtain ⟨b, _, rfl⟩ := hn
  have := UInt8.toNat_lt b
  omega
theorem size_bytesOf (l : List Int) : (bytesOf l).size = l.length := by
  show (bytesOf l).data.toList.length = _
  rw [bytesOf_list, List.length_map]
theorem upTo_bit (p : ByteArray) (f : Int → Bool) : ∀ n, n ≤ 90 → ∀ k, k < 90 → bit (spUpTo p f n) k = (decide (k < n) && f (byteAt p k)) := by
  intro n
  induction n with
  | zero => intro _ k _; simp [spUpTo, bit]
  | succ n ih =>
    intro hn k hk
    unfold spUpTo
    have h1 := ih (by omega) k hk
    split
    · rename_i hf
      unfold spWith
      rw [bit_or _ _ _ hk, h1, bit_one n k (by omega) hk]
      by_cases hkn : k = n
      · subst hkn; simp [hf]
      · by_cases hlt : k < n
        · simp [hlt, hkn, show k < n + 1 by omega]
        · simp [hlt, hkn, show ¬ k < n + 1 by omega]
    · rename_i hf
      rw [h1]
      by_cases hkn : k = n
      · subst hkn; simp [hf]
      · by_cases hlt : k < n
        · simp [hlt, show k < n + 1 by omega]
        · simp [hlt, show ¬ k < n + 1 by omega]
theorem set_canon {p : ByteArray} (hp : spIs p = true) (f : Int → Bool) : spList (spSet p f) = sqs.filter fun n => f (bAt (bytesL p) n) := by
  unfold spList spSet sqs
  rw [if_pos hp, List.filter_map]
  congr 1
  apply List.filter_congr
  intro k hk
  rw [List.mem_range] at hk
  rw [upTo_bit p f 90 (Nat.le_refl _) k hk]
  simp only [Function.comp, bAt_bytes]
  simp [hk]
theorem set_bad {p : ByteArray} (hp : spIs p = false) (f : Int → Bool) : spList (spSet p f) = [] := by
  unfold spSet; rw [hp]; exact spList_zero
theorem find_canon {p : ByteArray} (hp : spIs p = true) (c : Int) : spFind p c = sqs.filter fun n => bAt (bytesL p) n == c := by
  unfold spFind; rw [set_canon hp]
def dMoved (b : List Int) (fr to : Int) : List Int := (b.set to.toNat (bAt b fr)).set fr.toNat 46
theorem bAt_set {b : List Int} {t c x : Int} (hb : b.length = 90) (ht : Sqr t) (hx : 0 ≤ x) : bAt (b.set t.toNat c) x = if x = t then c else bAt b x := by
  have h1 := ht.lo; have h2 := ht.hi
  unfold bAt
  rw [List.getD_eq_getElem?_getD, List.getElem?_set]
  by_cases h : x = t
  · rw [if_pos (by omega), if_pos (by omega), if_pos h]; rfl
  · rw [if_neg (by omega), if_neg h, List.getD_eq_getElem?_getD]
theorem count_set {b : List Int} {t c s : Int} (hb : b.length = 90) (ht : Sqr t) : ∀ (k : Nat) (lo : Int), (∀ i : Nat, i < k → lo + i * s ≠ t ∧ 0 ≤ lo + i * s) → dCount (b.set t.toNat c) s k lo = dCount b s k lo := by
  intro k
  induction k with
  | zero => intro lo _; rfl
  | succ k ih =>
    intro lo h
    have h0 := h 0 (by omega)
    simp only [Int.natCast_zero, Int.zero_mul, Int.add_zero] at h0
    have h0 : lo ≠ t ∧ 0 ≤ lo := by simpa using h0
    rw [dCount, dCount, bAt_set hb ht h0.2, if_neg h0.1, ih (lo + s) (fun i hi => ?_)]
    have := h (i + 1) (by omega)
    rw [show ((i + 1 : Nat) : Int) * s = (i : Int) * s + s by rw [show ((i + 1 : Nat) : Int) = (i : Int) + 1 by omega, Int.add_mul, Int.one_mul]] at this
    have e : lo + ((i : Int) * s + s) = lo + s + (i : Int) * s := by omega
    rw [e] at this
    exact this
end Go.X

namespace Go.X
open Go
structure BY (c : Int) : Prop where
  lo : 0 ≤ c
  hi : c < 256
  u : True
theorem BY.at (p : ByteArray) (n : Nat) : BY (byteAt p n) := by
  obtain ⟨m, h, e⟩ := byteAt_lt p n
  exact ⟨by omega, by omega, trivial⟩
theorem side_tab : ∀ n : Nat, n < 256 → spSide (n : Int) = if n = 75 ∨ n = 65 ∨ n = 66 ∨ n = 78 ∨ n = 82 ∨ n = 67 ∨ n = 80 then 0 else if n = 107 ∨ n = 97 ∨ n = 98 ∨ n = 110 ∨ n = 114 ∨ n = 99 ∨ n = 112 then 1 else -1 := by decide +kernel
theorem side_ite {c : Int} (h : BY c) : spSide c = if c = 75 ∨ c = 65 ∨ c = 66 ∨ c = 78 ∨ c = 82 ∨ c = 67 ∨ c = 80 then 0 else if c = 107 ∨ c = 97 ∨ c = 98 ∨ c = 110 ∨ c = 114 ∨ c = 99 ∨ c = 112 then 1 else -1 := by
  have h1 := h.lo; have h2 := h.hi
  have := side_tab c.toNat (by omega)
  rw [show ((c.toNat : Nat) : Int) = c by omega] at this
  rw [this]
  have e : ∀ k : Nat, c.toNat = k ↔ c = (k : Int) := fun k => by omega
  simp only [e]
  rfl
theorem kind_tab : ∀ n : Nat, n < 256 → spKind (n : Int) = if spSide (n : Int) = 0 then (n : Int) else if spSide (n : Int) = 1 then (n : Int) - 32 else 0 := by decide +kernel
theorem kind_ite {c : Int} (h : BY c) : spKind c = if spSide c = 0 then c else if spSide c = 1 then c - 32 else 0 := by
  have h1 := h.lo; have h2 := h.hi
  have := kind_tab c.toNat (by omega)
  rwa [show ((c.toNat : Nat) : Int) = c by omega] at this
theorem side_low {c : Int} (h : BY c) (hs : spSide c = 1) : 97 ≤ c ∧ c ≤ 114 := by
  rw [side_ite h] at hs
  split at hs
  · cases hs
  · split at hs
    · omega
    · cases hs
theorem wrapB {x : Int} (h1 : 0 ≤ x) (h2 : x < 256) : IntKind.u8.wrap x = x := by
  have := wrap_u8 (n := x.toNat) (by omega)
  rwa [show ((x.toNat : Nat) : Int) = x by omega] at this
end Go.X

namespace Go.X
open Go

def rfOwn (n side : Int) : Int := if side = 1 then 9 - spRank n else spRank n
def rfPalace (n side : Int) : Bool := spOk n side && decide (3 ≤ spFile n) && decide (spFile n ≤ 5) && decide (rfOwn n side ≤ 2)
def rfAdv (f r : Int) : Bool := ((f == 4) && (r == 1)) || (((f == 3) || (f == 5)) && ((r == 0) || (r == 2)))
def rfEle (f r : Int) : Bool := if r = 0 ∨ r = 4 then (f == 2) || (f == 6) else if r = 2 then (f == 0) || (f == 4) || (f == 8) else false
theorem stand_tab : ∀ n : Nat, n < 90 → ∀ s : Nat, s < 2 → spPal (spSF n s) (spSR n s) = rfPalace n s ∧ spAdv (spSF n s) (spSR n s) = rfAdv (spFile n) (rfOwn n s) ∧ spEle (spSF n s) (spSR n s) = rfEle (spFile n) (rfOwn n s) ∧
    spPwn (spSF n s) (spSR n s) = (decide (5 ≤ rfOwn n s) || (decide (3 ≤ rfOwn n s) && ((spFile n).tmod 2 == 0))) ∧ spOvr (spSR n s) = decide (5 ≤ rfOwn n s) := by decide +kernel
theorem stand_eq {n side : Int} (h : spOk n side = true) : spPal (spSF n side) (spSR n side) = rfPalace n side ∧ spAdv (spSF n side) (spSR n side) = rfAdv (spFile n) (rfOwn n side) ∧ spEle (spSF n side) (spSR n side) = rfEle (spFile n) (rfOwn n side) ∧
    spPwn (spSF n side) (spSR n side) = (decide (5 ≤ rfOwn n side) || (decide (3 ≤ rfOwn n side) && ((spFile n).tmod 2 == 0))) ∧ spOvr (spSR n side) = decide (5 ≤ rfOwn n side) := by
  simp only [spOk, Bool.and_eq_true, Bool.or_eq_true, decide_eq_true_eq, beq_iff_eq] at h
  have := stand_tab n.toNat (by omega) side.toNat (by omega)
  rwa [show ((n.toNat : Nat) : Int) = n by omega, show ((side.toNat : Nat) : Int) = side by omega] at this
end Go.X

namespace Go.X
open Go
end Go.X

namespace Go.X
open Go
structure SD (s : Int) : Prop where
  is : s = 0 ∨ s = 1
  u : True
  v : True
theorem of_bytesL (p : ByteArray) : (bytesL p).map (fun n => UInt8.ofNat n.toNat) = p.data.toList := by
  unfold bytesL
  rw [List.map_map]
  conv => rhs; rw [← List.map_id p.data.toList]
  refine List.map_congr_left fun b _ => ?_
  simp
theorem bytesL_len (p : ByteArray) : (bytesL p).length = p.size := by unfold bytesL; rw [List.length_map]; rfl
end Go.X

namespace Go.X
open Go

theorem lt90 {i : Nat} (h : decide (Int.ofNat i < 90) = true) : i < 90 := by have := of_decide_eq_true h; simp at this; omega
theorem ge90 {i : Nat} (h : decide (Int.ofNat i < 90) = false) : 90 ≤ i := by have := of_decide_eq_false h; simp at this; omega
theorem ltN {i n : Nat} (h : decide (Int.ofNat i < (n : Int)) = true) : i < n := by have := of_decide_eq_true h; simp at this; omega
theorem geN {i n : Nat} (h : decide (Int.ofNat i < (n : Int)) = false) : n ≤ i := by have := of_decide_eq_false h; simp at this; omega
end Go.X

namespace Go.X
open Go
def dCnt (b : List Int) (c : Int) : Int := ((sqs.filter fun n => bAt b n == c).length : Nat)
def dMost (c : Int) : Int := if spKind c = 0 then 0 else if spKind c = 75 then 1 else if spKind c = 80 then 5 else 2
def letL : List Int := [75, 65, 66, 78, 82, 67, 80, 107, 97, 98, 110, 114, 99, 112]
def dBadN (b : List Int) (c : Int) : Bool := decide (dCnt b c > dMost c) || ((spKind c == 75) && (dCnt b c != 1))
def dBadP (b : List Int) (n : Int) : Bool := (bAt b n != 46) && !spMay (bAt b n) n
def dCheck (b : List Int) : Int := if letL.any (dBadN b) then 3 else if sqs.any (dBadP b) then 2 else 0
def rArg (p : ByteArray) (side clock full : Int) : Bool := !spIs p || decide (side < 0) || decide (side > 1) || decide (clock < 0) || decide (clock > 120) || decide (full < 1) || decide (full > 9999)
def rCheck (p : ByteArray) (side clock full : Int) : Int := if rArg p side clock full then 1 else dCheck (bytesL p)
theorem rArg_f {p : ByteArray} {side clock full : Int} (h : rArg p side clock full = false) : spIs p = true ∧ (side = 0 ∨ side = 1) ∧ (0 ≤ clock ∧ clock ≤ 120) ∧ 1 ≤ full ∧ full ≤ 9999 := by
  unfold rArg at h
  simp only [Bool.or_eq_false_iff, decide_eq_false_iff_not, Bool.not_eq_false'] at h
  obtain ⟨⟨⟨⟨⟨⟨h1, h2⟩, h3⟩, h4⟩, h5⟩, h6⟩, h7⟩ := h
  exact ⟨h1, by omega, by omega, by omega, by omega⟩
theorem rCheck_arg {p : ByteArray} {side clock full : Int} (h : rCheck p side clock full = 0) : rArg p side clock full = false ∧ dCheck (bytesL p) = 0 := by
  unfold rCheck at h
  split at h
  · cases h
  · rename_i e; exact ⟨by simpa using e, h⟩
end Go.X

namespace Go.X
open Go

theorem any_f {α : Type} {f : α → Bool} {l : List α} {d : α} (h : ∀ k, k < l.length → f (l.getD k d) = false) : l.any f = false := by
  rw [List.any_eq_false]
  intro x hx
  obtain ⟨k, hk, rfl⟩ := List.getElem_of_mem hx
  have := h k hk
  rw [List.getD_eq_getElem?_getD, List.getElem?_eq_getElem hk] at this
  rw [show l[k] = (some l[k]).getD d from rfl, this]; exact Bool.noConfusion
theorem any_t {α : Type} {f : α → Bool} {l : List α} {d : α} {k : Nat} (hk : k < l.length) (h : f (l.getD k d) = true) : l.any f = true := by
  rw [List.any_eq_true]
  refine ⟨l[k], List.getElem_mem hk, ?_⟩
  rw [List.getD_eq_getElem?_getD, List.getElem?_eq_getElem hk] at h
  exact h
theorem sqs_f {f : Int → Bool} (h : ∀ k : Nat, k < 90 → f (Int.ofNat k) = false) : sqs.any f = false := by
  rw [List.any_eq_false]
  intro x hx
  have hq := mem_sqs.1 hx
  have := h x.toNat (by omega)
  rw [show Int.ofNat x.toNat = x by show ((x.toNat : Nat) : Int) = x; omega] at this
  rw [this]; exact Bool.noConfusion
theorem sqs_t {f : Int → Bool} {k : Nat} (hk : k < 90) (h : f (Int.ofNat k) = true) : sqs.any f = true := by
  rw [List.any_eq_true]
  exact ⟨Int.ofNat k, mem_sqs.2 ⟨by simp, by simp; omega⟩, h⟩
theorem till {q : Nat → Prop} {i : Nat} (h : ∀ k, k < i → q k) (hi : q i) : ∀ k, k < i + 1 → q k := fun k hk => by
  by_cases e : k = i
  · rw [e]; exact hi
  · exact h k (by omega)
theorem find_cnt {p : ByteArray} (hp : spIs p = true) (c : Int) : ((spFind p c).length : Int) = dCnt (bytesL p) c := by rw [find_canon hp]; rfl
def letP : ByteArray := ⟨#[75, 65, 66, 78, 82, 67, 80, 107, 97, 98, 110, 114, 99, 112]⟩
theorem letP_at : ∀ i, i < 14 → byteAt letP i = letL.getD i 0 := by decide
theorem bytesOf_bytesL (p : ByteArray) : bytesOf (bytesL p) = p := by
  apply ByteArray.ext
  apply Array.toList_inj.1
  rw [bytesOf_list, of_bytesL]
theorem SD.wrap {side : Int} (h : SD side) : IntKind.i64.wrap (1 - side) = 1 - side := by rcases h.is with rfl | rfl <;> decide
end Go.X

namespace Go.X
open Go
end Go.X

namespace Go.X
open Go

def preC (p : List Int) : List (List Int) → List (List Int)
  | [] => [p]
  | h :: t => (p ++ h) :: t
def cutAt (c : Int) : List Int → List (List Int)
  | [] => [[]]
  | x :: l => if x = c then [] :: cutAt c l else preC [x] (cutAt c l)
theorem preC_nil (L : List (List Int)) (h : L ≠ []) : preC [] L = L := by cases L with
  | nil => exact absurd rfl h
  | cons x L => rfl
theorem cutAt_ne (c : Int) (l : List Int) : cutAt c l ≠ [] := by
  cases l with
  | nil => simp [cutAt]
  | cons x l =>
    unfold cutAt
    split
    · simp
    · cases cutAt c l <;> simp [preC]
theorem preC_preC (p q : List Int) (L : List (List Int)) (h : L ≠ []) : preC p (preC q L) = preC (p ++ q) L := by
  cases L with
  | nil => exact absurd rfl h
  | cons x L => simp [preC]
theorem cutAt_len (c : Int) (l : List Int) : (cutAt c l).length ≤ l.length + 1 := by
  induction l with
  | nil => simp [cutAt]
  | cons x l ih =>
    unfold cutAt
    split
    · simp only [List.length_cons]; omega
    · cases h : cutAt c l with
      | nil => simp [preC]
      | cons y L => rw [h] at ih; simp only [preC, List.length_cons] at ih ⊢; omega
def part (b : List Int) (i j : Nat) : List Int := (b.drop i).take (j - i)
theorem part_next {b : List Int} {i j : Nat} (h : i ≤ j) (hj : j < b.length) : part b i (j + 1) = part b i j ++ [b.getD j 0] := by
  unfold part
  rw [show j + 1 - i = (j - i) + 1 by omega, List.take_succ_eq_append_getElem (by rw [List.length_drop]; omega), List.getElem_drop, List.getD_eq_getElem?_getD, List.getElem?_eq_getElem hj]
  congr 2
  simp only [show i + (j - i) = j by omega]; rfl
theorem part_self (b : List Int) (i : Nat) : part b i i = [] := by unfold part; rw [Nat.sub_self, List.take_zero]
structure CutInv (c : Int) (b : List Int) (D : List (List Int)) (j i : Nat) : Prop where
  le : j ≤ i
  hi : i ≤ b.length
  eq : cutAt c b = D ++ preC (part b j i) (cutAt c (b.drop i))
theorem CutInv.start (c : Int) (b : List Int) : CutInv c b [] 0 0 := ⟨Nat.le_refl _, Nat.zero_le _, by rw [part_self, preC_nil _ (cutAt_ne _ _)]; rfl⟩
theorem drop_cons {b : List Int} {i : Nat} (h : i < b.length) : b.drop i = b.getD i 0 :: b.drop (i + 1) := by
  rw [List.drop_eq_getElem_cons h, List.getD_eq_getElem?_getD, List.getElem?_eq_getElem h]; rfl
theorem CutInv.cut {c : Int} {b : List Int} {D : List (List Int)} {j i : Nat} (h : CutInv c b D j i) (hi : i < b.length) (e : b.getD i 0 = c) : CutInv c b (D ++ [part b j i]) (i + 1) (i + 1) := by
  refine ⟨Nat.le_refl _, hi, ?_⟩
  rw [h.eq, drop_cons hi, cutAt, if_pos e, part_self, preC_nil _ (cutAt_ne _ _)]
  simp [preC]
theorem CutInv.keep {c : Int} {b : List Int} {D : List (List Int)} {j i : Nat} (h : CutInv c b D j i) (hi : i < b.length) (e : b.getD i 0 ≠ c) : CutInv c b D j (i + 1) := by
  refine ⟨Nat.le_succ_of_le h.le, hi, ?_⟩
  rw [h.eq, drop_cons hi, cutAt, if_neg e, preC_preC _ _ _ (cutAt_ne _ _), part_next h.le hi]
theorem CutInv.done {c : Int} {b : List Int} {D : List (List Int)} {j : Nat} (h : CutInv c b D j b.length) : cutAt c b = D ++ [part b j b.length] := by
  rw [h.eq, List.drop_length]; simp [cutAt, preC]
theorem CutInv.len {c : Int} {b : List Int} {D : List (List Int)} {j i : Nat} (h : CutInv c b D j i) : D.length ≤ b.length + 1 := by
  have h1 := cutAt_len c b
  rw [h.eq, List.length_append] at h1
  omega
theorem cutAt_mem {c : Int} : ∀ {l : List Int} {p : List Int}, p ∈ cutAt c l → ∀ x ∈ p, x ∈ l ∧ x ≠ c := by
  intro l
  induction l with
  | nil => intro p hp x hx; simp [cutAt] at hp; subst hp; cases hx
  | cons y l ih =>
    intro p hp x hx
    unfold cutAt at hp
    split at hp
    · rw [List.mem_cons] at hp
      rcases hp with rfl | hp
      · cases hx
      · have := ih hp x hx; exact ⟨by simp [this.1], this.2⟩
    · rename_i hy
      cases hq : cutAt c l with
      | nil => exact absurd hq (cutAt_ne _ _)
      | cons h t =>
        rw [hq] at hp
        simp only [preC, List.mem_cons] at hp
        rcases hp with rfl | hp
        · simp only [List.singleton_append, List.mem_cons] at hx
          rcases hx with rfl | hx
          · exact ⟨by simp, hy⟩
          · have := ih (p := h) (by rw [hq]; simp) x hx; exact ⟨by simp [this.1], this.2⟩
        · have := ih (p := p) (by rw [hq]; simp [hp]) x hx; exact ⟨by simp [this.1], this.2⟩

def letter4 (c : Int) : Int := if c = 69 then 66 else if c = 101 then 98 else if c = 72 then 78 else if c = 104 then 110 else c
def rstep (o : Option (List Int)) (c0 : Int) : Option (List Int) := match o with
  | none => none
  | some out => if 49 ≤ letter4 c0 ∧ letter4 c0 ≤ 57 then some (out ++ List.replicate (letter4 c0 - 48).toNat 46) else if 0 ≤ spSide (letter4 c0) then some (out ++ [letter4 c0]) else none
def rankGo (b : List Int) : Option (List Int) := b.foldl rstep (some [])
theorem rstep_none (l : List Int) : l.foldl rstep none = none := by
  induction l with
  | nil => rfl
  | cons x l ih => rw [List.foldl_cons]; exact ih
def rankR (b : List Int) : Option (List Int) := match rankGo b with
  | some o => if o.length = 9 then some o else none
  | none => none
def cstep4 (o : Option (List Int)) (p : List Int) : Option (List Int) := match o with
  | none => none
  | some out => match rankR p with
    | some r => some (out ++ r)
    | none => none
def cellsGo (b : List Int) : Option (List Int) := if (cutAt 47 b).length = 10 then (cutAt 47 b).reverse.foldl cstep4 (some []) else none
def nstep (o : Option Int) (c : Int) : Option Int := match o with
  | none => none
  | some n => if 48 ≤ c ∧ c ≤ 57 then some (10 * n + (c - 48)) else none
theorem nstep_none (l : List Int) : l.foldl nstep none = none := by
  induction l with
  | nil => rfl
  | cons x l ih => rw [List.foldl_cons]; exact ih
def numGo (b : List Int) : Option Int := if b = [] ∨ 4 < b.length ∨ (b.getD 0 0 = 48 ∧ 1 < b.length) then none else b.foldl nstep (some 0)
def sideGo (b : List Int) : Option Int := if b = [119] ∨ b = [114] then some 0 else if b = [98] then some 1 else none
def formGo (l : List (List Int)) : Option (List Int × Int × Int × Int) := match l with
  | [a, t] => match cellsGo a, sideGo t with
    | some b, some s => some (b, s, 0, 1)
    | _, _ => none
  | [a, t, x, y, k, f] => match cellsGo a, sideGo t, numGo k, numGo f with
    | some b, some s, some n, some m => if x = [45] ∧ y = [45] then some (b, s, n, m) else none
    | _, _, _, _ => none
  | _ => none
def form4 (s : ByteArray) : Option (List Int × Int × Int × Int) := if 1000 < s.size then none else formGo (cutAt 32 (bytesL s))
def err4 (s : ByteArray) : Int := match form4 s with
  | some (b, sd, k, f) => rCheck (bytesOf b) sd k f
  | none => 6
def pos4 (s : ByteArray) : ByteArray × Int × Int × Int := match form4 s with
  | some (b, sd, k, f) => if rCheck (bytesOf b) sd k f = 0 then (bytesOf b, sd, k, f) else (ByteArray.empty, 0, 0, 0)
  | none => (ByteArray.empty, 0, 0, 0)
end Go.X

namespace Go.X
open Go

structure SPL (s sep : ByteArray) : Prop where
  s : s.size ≤ 4000000
  sep : sep.size = 1
  v : True
def pieces (c : Int) (s : ByteArray) : List ByteArray := (cutAt c (bytesL s)).map bytesOf
theorem cut_index (c : UInt8) : ∀ (l : List UInt8), (Lib.indexByte l c = -1 ∧ l.count c = 0 ∧ cutAt (c.toNat : Int) (l.map fun b => (b.toNat : Int)) = [l.map fun b => (b.toNat : Int)]) ∨
    ∃ k : Nat, Lib.indexByte l c = (k : Int) ∧ l.count c = (l.drop (k + 1)).count c + 1 ∧ cutAt (c.toNat : Int) (l.map fun b => (b.toNat : Int)) = ((l.take k).map fun b => (b.toNat : Int)) :: cutAt (c.toNat : Int) ((l.drop (k + 1)).map fun b => (b.toNat : Int)) := by
  intro l
  induction l with
  | nil => exact .inl ⟨rfl, rfl, rfl⟩
  | cons x l ih =>
    by_cases hx : x = c
    · subst hx
      refine .inr ⟨0, by simp [Lib.indexByte], by simp, ?_⟩
      show cutAt _ ((x.toNat : Int) :: _) = _
      rw [cutAt, if_pos rfl]; rfl
    · have hx' : (x == c) = false := by simpa using hx
      have hn : ¬ ((x.toNat : Int) = (c.toNat : Int)) := fun h => hx (UInt8.toNat_inj.1 (by omega))
      have hcut : ∀ (L : List Int), cutAt (c.toNat : Int) ((x.toNat : Int) :: L) = preC [(x.toNat : Int)] (cutAt (c.toNat : Int) L) := fun L => by rw [cutAt, if_neg hn]
      rw [Lib.indexByte, if_neg (by rw [hx']; exact Bool.noConfusion)]
      rcases ih with ⟨h1, h2, h3⟩ | ⟨k, h1, h2, h3⟩
      · refine .inl ⟨by rw [h1]; rfl, by rw [List.count_cons, h2, hx']; simp, ?_⟩
        rw [List.map_cons, hcut, h3]; rfl
      · refine .inr ⟨k + 1, ?_, ?_, ?_⟩
        · rw [h1, if_neg (by simp)]; omega
        · rw [List.count_cons, h2, hx']; simp
        · rw [List.map_cons, hcut, h3]; rfl
theorem splitK_cut (c : UInt8) : ∀ (k : Nat) (l : List UInt8), l.count c = k → (Lib.splitK [c] 0 k l).map (fun p => p.map fun b => ((b.toNat : Nat) : Int)) = cutAt (c.toNat : Int) (l.map fun b => (b.toNat : Int)) := by
  intro k
  induction k with
  | zero =>
    intro l h
    rcases cut_index c l with ⟨_, _, h3⟩ | ⟨k, _, h2, _⟩
    · rw [h3]; rfl
    · omega
  | succ k ih =>
    intro l h
    rcases cut_index c l with ⟨_, h2, _⟩ | ⟨j, h1, h2, h3⟩
    · omega
    · rw [Lib.splitK, Lib.index_one, h1, if_neg (by simp), h3]
      simp only [Int.toNat_natCast, Nat.add_zero, List.length_singleton, List.map_cons]
      rw [ih _ (by omega)]
theorem split_pieces {s : ByteArray} {c : UInt8} : Lib.splitB ⟨#[c]⟩ 0 (Lib.countB s ⟨#[c]⟩) s = pieces (c.toNat : Int) s ∧ Lib.countB s ⟨#[c]⟩ + 1 = (pieces (c.toNat : Int) s).length := by
  have h1 := Lib.splitB_data ⟨#[c]⟩ 0 (Lib.countB s ⟨#[c]⟩) s
  have hc : Lib.countB s ⟨#[c]⟩ = s.data.toList.count c := Lib.count_one c _
  have h2 := splitK_cut c _ s.data.toList hc.symm
  have e : (⟨#[c]⟩ : ByteArray).data.toList = [c] := rfl
  rw [e] at h1
  have h3 : (Lib.splitB ⟨#[c]⟩ 0 (Lib.countB s ⟨#[c]⟩) s).map bytesL = cutAt (c.toNat : Int) (bytesL s) := by
    unfold bytesL
    rw [← h2, ← h1, List.map_map]; rfl
  have h4 : pieces (c.toNat : Int) s = Lib.splitB ⟨#[c]⟩ 0 (Lib.countB s ⟨#[c]⟩) s := by
    unfold pieces
    rw [← h3, List.map_map]
    conv => rhs; rw [← List.map_id (Lib.splitB ⟨#[c]⟩ 0 (Lib.countB s ⟨#[c]⟩) s)]
    refine List.map_congr_left fun t _ => ?_
    show bytesOf (bytesL t) = t
    apply ByteArray.ext
    apply Array.toList_inj.1
    rw [bytesOf_list, of_bytesL]
  refine ⟨h4.symm, ?_⟩
  rw [h4]
  exact (Lib.splitB_all ⟨#[c]⟩ (Nat.le_refl 1) 0 _ s rfl).symm
theorem one_byte {sep : ByteArray} (h : sep.size = 1) : ∃ c : UInt8, sep = ⟨#[c]⟩ ∧ byteAt sep 0 = (c.toNat : Int) := by
  obtain ⟨⟨l⟩⟩ := sep
  match l, h with
  | [x], _ => exact ⟨x, rfl, rfl⟩

def rankT (b : List Int) : List Int := match rankGo b with | some o => o | none => []
def rankOk (b : List Int) : Bool := match rankGo b with | some o => decide (o.length = 9) | none => false
theorem rank_rest {l : List Int} {i : Nat} {acc : List Int} (hi : i < l.length) (h : (l.take i).foldl rstep (some []) = some acc) (hn : rstep (some acc) (l.getD i 0) = none) : rankGo l = none := by
  unfold rankGo
  conv => lhs; rw [← List.take_append_drop (i + 1) l]
  rw [List.foldl_append, List.take_succ_eq_append_getElem hi, List.foldl_append, h]
  have e : l[i] = l.getD i 0 := by rw [List.getD_eq_getElem?_getD, List.getElem?_eq_getElem hi]; rfl
  rw [List.foldl_cons, List.foldl_nil, e, hn, rstep_none]
theorem rank_next {l : List Int} {i : Nat} {acc acc' : List Int} (hi : i < l.length) (h : (l.take i).foldl rstep (some []) = some acc) (hn : rstep (some acc) (l.getD i 0) = some acc') : (l.take (i + 1)).foldl rstep (some []) = some acc' := by
  rw [List.take_succ_eq_append_getElem hi, List.foldl_append, h]
  have e : l[i] = l.getD i 0 := by rw [List.getD_eq_getElem?_getD, List.getElem?_eq_getElem hi]; rfl
  rw [List.foldl_cons, List.foldl_nil, e, hn]
theorem rank_done {l acc : List Int} (h : (l.take l.length).foldl rstep (some []) = some acc) : rankT l = acc ∧ rankOk l = decide (acc.length = 9) := by
  rw [List.take_length] at h
  unfold rankT rankOk rankGo
  rw [h]; exact ⟨rfl, rfl⟩
theorem rank_bad {l : List Int} (h : rankGo l = none) : rankT l = [] ∧ rankOk l = false := by
  unfold rankT rankOk
  rw [h]; exact ⟨rfl, rfl⟩
def lidx (c : Int) : Int := spIdxB [69, 101, 72, 104] c
theorem letter_tab : ∀ n : Nat, n < 256 → (0 ≤ lidx n → lidx n < 4 ∧ letter4 n = byteAt ⟨#[66, 98, 78, 110]⟩ (lidx n).toNat) ∧ (lidx n < 0 → letter4 n = n) ∧ 0 ≤ letter4 n ∧ letter4 n < 256 := by decide +kernel
theorem rstep_d {acc : List Int} {b c : Int} (h : letter4 b = c) (h1 : (decide (c ≥ 49) && decide (c ≤ 57)) = true) : rstep (some acc) b = some (acc ++ List.replicate (c - 48).toNat 46) ∧ IntKind.i64.wrap (IntKind.u8.wrap (c - 48)) = c - 48 ∧ 0 ≤ c - 48 ∧ c - 48 ≤ 9 := by
  simp only [Bool.and_eq_true, decide_eq_true_eq] at h1
  subst h
  refine ⟨by unfold rstep; simp only; rw [if_pos ⟨h1.1, h1.2⟩], by rw [wrapB (by omega) (by omega), wrap64 (by omega) (by omega)], by omega, by omega⟩
theorem rstep_p {acc : List Int} {b c : Int} (h : letter4 b = c) (h1 : (decide (c ≥ 49) && decide (c ≤ 57)) = false) (h2 : decide (spSide c ≥ 0) = true) : rstep (some acc) b = some (acc ++ [c]) := by
  simp only [Bool.and_eq_false_iff, decide_eq_false_iff_not, decide_eq_true_eq] at h1 h2
  subst h
  unfold rstep; simp only; rw [if_neg (by omega), if_pos h2]
theorem rstep_n {acc : List Int} {b c : Int} (h : letter4 b = c) (h1 : (decide (c ≥ 49) && decide (c ≤ 57)) = false) (h2 : decide (spSide c ≥ 0) = false) : rstep (some acc) b = none := by
  simp only [Bool.and_eq_false_iff, decide_eq_false_iff_not] at h1 h2
  subst h
  unfold rstep; simp only; rw [if_neg (by omega), if_neg h2]
theorem letter_at {b : Int} (h : 0 ≤ b ∧ b < 256) : (0 ≤ spIdxB [69, 101, 72, 104] b → spIdxB [69, 101, 72, 104] b < 4 ∧ letter4 b = byteAt ⟨#[66, 98, 78, 110]⟩ (spIdxB [69, 101, 72, 104] b).toNat) ∧ (spIdxB [69, 101, 72, 104] b < 0 → letter4 b = b) ∧ 0 ≤ letter4 b ∧ letter4 b < 256 := by
  have := letter_tab b.toNat (by omega)
  rw [show ((b.toNat : Nat) : Int) = b by omega] at this
  exact this
theorem dots_by {n : Nat} : BYL (List.replicate n 46) := ⟨fun x hx => by rw [List.eq_of_mem_replicate hx]; decide, trivial, trivial⟩
theorem BYL.app {l m : List Int} (h : BYL l) (h' : BYL m) : BYL (l ++ m) := ⟨fun x hx => by rcases List.mem_append.1 hx with hx | hx; exact h.b x hx; exact h'.b x hx, trivial, trivial⟩
theorem BYL.one {c : Int} (h : 0 ≤ c ∧ c < 256) : BYL [c] := ⟨fun x hx => by rw [List.mem_singleton.1 hx]; exact h, trivial, trivial⟩
end Go.X

namespace Go.X
open Go

theorem cut_bytes {c : Int} {s : ByteArray} {p : List Int} (h : p ∈ cutAt c (bytesL s)) : ∀ x ∈ p, 0 ≤ x ∧ x < 256 := fun x hx => bytesL_bound s x (cutAt_mem h x hx).1
theorem pieces_map (c : Int) (s : ByteArray) : (pieces c s).map bytesL = cutAt c (bytesL s) := by
  unfold pieces
  rw [List.map_map]
  conv => rhs; rw [← List.map_id (cutAt c (bytesL s))]
  exact List.map_congr_left fun p hp => bytesL_of (cut_bytes hp)
theorem pieces_length (c : Int) (s : ByteArray) : (pieces c s).length = (cutAt c (bytesL s)).length := by rw [← pieces_map, List.length_map]
theorem preC_short {n : Nat} {p : List Int} {L : List (List Int)} (hp : p.length ≤ 1) (h : ∀ q ∈ L, q.length ≤ n) : ∀ q ∈ preC p L, q.length ≤ n + 1 := by
  cases L with
  | nil => intro q hq; simp [preC] at hq; subst hq; omega
  | cons x L =>
    intro q hq
    simp only [preC, List.mem_cons] at hq
    rcases hq with rfl | hq
    · have := h x (by simp); rw [List.length_append]; omega
    · have := h q (by simp [hq]); omega
theorem cut_short (c : Int) (l : List Int) : ∀ p ∈ cutAt c l, p.length ≤ l.length := by
  induction l with
  | nil => intro p hp; simp [cutAt] at hp; subst hp; simp
  | cons x l ih =>
    unfold cutAt
    split
    · intro p hp
      rw [List.mem_cons] at hp
      rcases hp with rfl | hp
      · simp
      · have := ih p hp; simp; omega
    · exact preC_short (by simp) ih
theorem pieces_short {c : Int} {s t : ByteArray} (h : t ∈ pieces c s) : t.size ≤ s.size := by
  unfold pieces at h
  obtain ⟨p, hp, rfl⟩ := List.mem_map.1 h
  rw [size_bytesOf]
  have := cut_short c _ p hp
  have e : (bytesL s).length = s.size := by simp [bytesL]
  omega

def cstepB (o : Option (List Int)) (t : ByteArray) : Option (List Int) := cstep4 o (bytesL t)
def cellsR (b : List Int) : Option (List Int) := (cutAt 47 b).reverse.foldl cstep4 (some [])
def cellsT (b : List Int) : List Int := match cellsR b with | some o => o | none => []
def cellsOk (b : List Int) : Bool := match cellsR b with | some _ => decide ((cutAt 47 b).length = 10) | none => false
theorem cells_fold (s : ByteArray) : (pieces 47 s).reverse.foldl cstepB (some []) = cellsR (bytesL s) := by
  unfold cellsR
  rw [← pieces_map, ← List.map_reverse, List.foldl_map]; rfl
theorem rank_two (b : List Int) : (rankOk b = true → rankR b = some (rankT b) ∧ (rankT b).length = 9) ∧ (rankOk b = false → rankR b = none) := by
  unfold rankOk rankR rankT
  cases rankGo b with
  | none => simp
  | some o => by_cases h : o.length = 9 <;> simp [h]
theorem cells_next {L : List ByteArray} {i : Nat} {acc : List Int} (hi : i < L.length) (h : (L.take i).foldl cstepB (some []) = some acc) (hr : rankOk (bytesL (L.getD i ByteArray.empty)) = true) : (L.take (i + 1)).foldl cstepB (some []) = some (acc ++ rankT (bytesL (L.getD i ByteArray.empty))) := by
  have e : L[i] = L.getD i ByteArray.empty := by rw [List.getD_eq_getElem?_getD, List.getElem?_eq_getElem hi]; rfl
  rw [List.take_succ_eq_append_getElem hi, List.foldl_append, h, List.foldl_cons, List.foldl_nil, e]
  unfold cstepB cstep4
  rw [((rank_two _).1 hr).1]
theorem cells_bad {s : ByteArray} {i : Nat} {acc : List Int} (hi : i < (pieces 47 s).reverse.length) (h : ((pieces 47 s).reverse.take i).foldl cstepB (some []) = some acc) (hr : rankOk (bytesL ((pieces 47 s).reverse.getD i ByteArray.empty)) = false) : cellsT (bytesL s) = [] ∧ cellsOk (bytesL s) = false := by
  have hc : cellsR (bytesL s) = none := by
    rw [← cells_fold]
    generalize (pieces 47 s).reverse = L at *
    have e : L[i] = L.getD i ByteArray.empty := by rw [List.getD_eq_getElem?_getD, List.getElem?_eq_getElem hi]; rfl
    conv => lhs; rw [← List.take_append_drop (i + 1) L]
    rw [List.foldl_append, List.take_succ_eq_append_getElem hi, List.foldl_append, h, List.foldl_cons, List.foldl_nil, e]
    have e2 : cstepB (some acc) (L.getD i ByteArray.empty) = none := by
      unfold cstepB cstep4
      rw [(rank_two _).2 hr]
    rw [e2]
    have : ∀ l : List ByteArray, l.foldl cstepB none = none := by
      intro l
      induction l with
      | nil => rfl
      | cons x l ih => rw [List.foldl_cons]; exact ih
    exact this _
  unfold cellsT cellsOk
  rw [hc]; exact ⟨rfl, rfl⟩
theorem cells_done {s : ByteArray} {acc : List Int} (h : ((pieces 47 s).reverse.take (pieces 47 s).reverse.length).foldl cstepB (some []) = some acc) : cellsT (bytesL s) = acc ∧ cellsOk (bytesL s) = decide ((pieces 47 s).length = 10) := by
  rw [List.take_length, cells_fold] at h
  unfold cellsT cellsOk
  rw [h, pieces_length]; exact ⟨rfl, rfl⟩
theorem getD_mem {L : List ByteArray} {i : Nat} (hi : i < L.length) : L.getD i ByteArray.empty ∈ L := by
  rw [List.getD_eq_getElem?_getD, List.getElem?_eq_getElem hi]; exact List.getElem_mem hi
theorem rank_by {b : List Int} (hb : ∀ x ∈ b, 0 ≤ x ∧ x < 256) : BYL (rankT b) := by
  unfold rankT
  cases h : rankGo b with
  | none => exact ⟨by simp, trivial, trivial⟩
  | some o =>
    have : ∀ (l : List Int) (a : List Int), BYL a → (∀ x ∈ l, 0 ≤ x ∧ x < 256) → ∀ o, l.foldl rstep (some a) = some o → BYL o := by
      intro l
      induction l with
      | nil => intro a ha _ o ho; cases ho; exact ha
      | cons x l ih =>
        intro a ha hl o ho
        rw [List.foldl_cons] at ho
        cases hs : rstep (some a) x with
        | none => rw [hs, rstep_none] at ho; cases ho
        | some a' =>
          rw [hs] at ho
          refine ih a' ?_ (fun y hy => hl y (by simp [hy])) o ho
          unfold rstep at hs
          simp only at hs
          split at hs
          · cases hs; exact ha.app dots_by
          · split at hs
            · cases hs; exact ha.app (.one (letter_at (hl x (by simp))).2.2)
            · cases hs
    exact this b [] ⟨by simp, trivial, trivial⟩ hb o h
end Go.X

namespace Go.X
open Go

theorem bAt_list {b : List Int} (hb : b.length = 90) : sqs.map (bAt b) = b := by
  apply List.ext_getElem
  · simp [sqs, hb]
  · intro i h1 h2
    simp only [sqs, List.getElem_map, List.getElem_range]
    show b.getD (Int.toNat (Int.ofNat i)) 0 = b[i]
    rw [List.getD_eq_getElem?_getD]
    show b[i]?.getD 0 = b[i]
    rw [List.getElem?_eq_getElem h2]; rfl
theorem dCnt_count {b : List Int} (hb : b.length = 90) (c : Int) : dCnt b c = (b.count c : Nat) := by
  unfold dCnt
  congr 1
  conv => rhs; rw [← bAt_list hb]
  rw [List.count_eq_countP, List.countP_map, List.countP_eq_length_filter]
  rfl
theorem bAt_get {b : List Int} {n : Int} (hb : b.length = 90) (hn : Sqr n) : ∃ h : n.toNat < b.length, bAt b n = b[n.toNat] := by
  have h1 := hn.lo; have h2 := hn.hi
  refine ⟨by omega, ?_⟩
  unfold bAt
  rw [List.getD_eq_getElem?_getD, List.getElem?_eq_getElem (by omega)]; rfl
theorem cnt_set {b : List Int} {n c x : Int} (hb : b.length = 90) (hn : Sqr n) : dCnt (b.set n.toNat x) c = dCnt b c - (if bAt b n = c then 1 else 0) + (if x = c then 1 else 0) := by
  obtain ⟨h, e⟩ := bAt_get hb hn
  rw [dCnt_count (by rw [List.length_set]; exact hb), dCnt_count hb, List.count_set (h := h), e]
  have hp : b[n.toNat] = c → 0 < b.count c := fun h' => List.count_pos_iff.2 (h' ▸ List.getElem_mem h)
  by_cases h1 : b[n.toNat] = c
  · have := hp h1
    rw [if_pos h1, if_pos (by simpa using h1)]
    by_cases h2 : x = c
    · rw [if_pos h2, if_pos (by simpa using h2)]; omega
    · rw [if_neg h2, if_neg (by simpa using h2)]; omega
  · rw [if_neg h1, if_neg (by simpa using h1)]
    by_cases h2 : x = c
    · rw [if_pos h2, if_pos (by simpa using h2)]; omega
    · rw [if_neg h2, if_neg (by simpa using h2)]; omega
theorem cnt_moved {b : List Int} {fr to c : Int} (hb : b.length = 90) (hf : Sqr fr) (ht : Sqr to) (hne : to ≠ fr) (hc : c ≠ 46) : dCnt (dMoved b fr to) c = dCnt b c - (if bAt b to = c then 1 else 0) := by
  unfold dMoved
  have hb' : (b.set to.toNat (bAt b fr)).length = 90 := by rw [List.length_set]; exact hb
  have e : bAt (b.set to.toNat (bAt b fr)) fr = bAt b fr := by rw [bAt_set hb ht hf.lo, if_neg (fun e => hne e.symm)]
  rw [cnt_set hb' hf, cnt_set hb ht, e, if_neg (fun h : (46 : Int) = c => hc h.symm)]
  omega
theorem bAt_by (p : ByteArray) (n : Int) : BY (bAt (bytesL p) n) := by rw [bAt_bytes]; exact BY.at _ _
theorem SD.turn {s : Int} (h : SD s) : SD (1 - s) := ⟨by rcases h.is with h | h <;> omega, trivial, trivial⟩
end Go.X

namespace Go.X
open Go

end Go.X

namespace Go.X
open Go

def swp (c : Int) : Int := if spSide c = 0 then c + 32 else if spSide c = 1 then c - 32 else c
def dTurn (b : List Int) : List Int := (b.map swp).reverse
theorem swp_tab : ∀ n : Nat, n < 256 → (0 ≤ swp n ∧ swp n < 256 ∧ (spSide n = 0 → spSide (swp n) = 1) ∧ (spSide n = 1 → spSide (swp n) = 0) ∧ (spSide n = -1 → spSide (swp n) = -1) ∧ spKind (swp n) = spKind n ∧ (swp n = 46 ↔ (n : Int) = 46) ∧ swp (swp n) = n ∧ (spIsCell (n : Int) = true → spIsCell (swp n) = true)) := by decide +kernel
theorem swp_ok {c : Int} (h : BY c) : 0 ≤ swp c ∧ swp c < 256 ∧ (spSide c = 0 → spSide (swp c) = 1) ∧ (spSide c = 1 → spSide (swp c) = 0) ∧ (spSide c = -1 → spSide (swp c) = -1) ∧ spKind (swp c) = spKind c ∧ (swp c = 46 ↔ c = 46) ∧ swp (swp c) = c ∧ (spIsCell c = true → spIsCell (swp c) = true) := by
  have h1 := h.lo; have h2 := h.hi
  have := swp_tab c.toNat (by omega)
  rwa [show ((c.toNat : Nat) : Int) = c by omega] at this
theorem swp_inj {c d : Int} (h : BY c) (h' : BY d) (e : swp c = swp d) : c = d := by rw [← (swp_ok h).2.2.2.2.2.2.2.1, e, (swp_ok h').2.2.2.2.2.2.2.1]
structure BL (b : List Int) : Prop where
  len : b.length = 90
  by' : ∀ n, BY (bAt b n)
theorem turn_len {b : List Int} (h : b.length = 90) : (dTurn b).length = 90 := by unfold dTurn; rw [List.length_reverse, List.length_map]; exact h
theorem Sqr.turn {n : Int} (h : Sqr n) : Sqr (89 - n) := by have := h.lo; have := h.hi; exact ⟨by omega, by omega⟩
theorem bAt_turn {b : List Int} (h : b.length = 90) {n : Int} (hn : Sqr n) : bAt (dTurn b) n = swp (bAt b (89 - n)) := by
  have h1 := hn.lo; have h2 := hn.hi
  obtain ⟨g, e⟩ := bAt_get h hn.turn
  obtain ⟨g', e'⟩ := bAt_get (turn_len h) hn
  rw [e, e']
  have g2 : n.toNat < (b.map swp).reverse.length := g'
  show (b.map swp).reverse[n.toNat]'g2 = _
  rw [List.getElem_reverse, List.getElem_map]
  congr 2
  rw [List.length_map, h]; omega
theorem BL.turn {b : List Int} (h : BL b) : BL (dTurn b) := by
  refine ⟨turn_len h.len, fun n => ?_⟩
  by_cases hn : n.toNat < 90
  · have e : bAt (dTurn b) n = bAt (dTurn b) (n.toNat : Int) := by unfold bAt; rw [Int.toNat_natCast]
    rw [e, bAt_turn h.len ⟨by omega, by omega⟩]
    have := swp_ok (h.by' (89 - (n.toNat : Int)))
    exact ⟨this.1, this.2.1, trivial⟩
  · have : bAt (dTurn b) n = 0 := by
      unfold bAt
      rw [List.getD_eq_getElem?_getD, List.getElem?_eq_none (by rw [turn_len h.len]; omega)]; rfl
    rw [this]; exact ⟨by decide, by decide, trivial⟩
end Go.X

namespace Go.X
open Go

theorem sqs_turn : sqs = (sqs.reverse).map (89 - ·) := by decide
theorem filter_turn (f : Int → Bool) : sqs.filter (fun n => f (89 - n)) = ((sqs.filter f).reverse).map (89 - ·) := by
  have e : sqs.filter (fun n => f (89 - n)) = ((sqs.reverse).map (89 - ·)).filter (fun n => f (89 - n)) := by rw [← sqs_turn]
  rw [e, List.filter_map, ← List.filter_reverse]
  congr 2
  funext n
  show f (89 - (89 - n)) = f n
  rw [show 89 - (89 - n) = n by omega]
theorem filter_turn' {f g : Int → Bool} (h : ∀ n, Sqr n → g n = f (89 - n)) : sqs.filter g = ((sqs.filter f).reverse).map (89 - ·) := by
  rw [← filter_turn]
  exact List.filter_congr fun n hn => h n ⟨(mem_sqs.1 hn).1, (mem_sqs.1 hn).2⟩
structure OneG (b : List Int) : Prop where
  red : dCnt b 75 ≤ 1
  black : dCnt b 107 ≤ 1
def kOf (s : Int) : Int := if s = 0 then 75 else 107
theorem kOf_by (s : Int) : BY (kOf s) := by unfold kOf; split <;> exact ⟨by decide, by decide, trivial⟩
theorem kOf_swp {s : Int} (h : SD s) : swp (kOf s) = kOf (1 - s) := by rcases h.is with rfl | rfl <;> decide
theorem OneG.of {b : List Int} (h : OneG b) (s : Int) : dCnt b (kOf s) ≤ 1 := by unfold kOf; split; exact h.red; exact h.black
theorem OneG.turn {b : List Int} (h : BL b) (hu : OneG b) : OneG (dTurn b) := by
  have key : ∀ s, SD s → dCnt (dTurn b) (kOf (1 - s)) = dCnt b (kOf s) := fun s hs => by
    unfold dCnt
    rw [filter_turn' (f := fun n => bAt b n == kOf s), List.length_map, List.length_reverse]
    intro n hn
    rw [bAt_turn h.len hn, ← kOf_swp hs, Bool.eq_iff_iff, beq_iff_eq, beq_iff_eq]
    exact ⟨fun e => swp_inj (h.by' _) (kOf_by s) e, fun e => by rw [e]⟩
  refine ⟨?_, ?_⟩
  · have := key 1 ⟨.inr rfl, trivial, trivial⟩
    rw [show dCnt (dTurn b) 75 = dCnt (dTurn b) (kOf (1 - 1)) from rfl, this]; exact hu.black
  · have := key 0 ⟨.inl rfl, trivial, trivial⟩
    rw [show dCnt (dTurn b) 107 = dCnt (dTurn b) (kOf (1 - 0)) from rfl, this]; exact hu.red
theorem BL.set {b : List Int} (h : BL b) {n c : Int} (hn : Sqr n) (hc : BY c) : BL (b.set n.toNat c) := by
  refine ⟨by rw [List.length_set]; exact h.len, fun m => ?_⟩
  have e : bAt (b.set n.toNat c) m = bAt (b.set n.toNat c) (m.toNat : Int) := by unfold bAt; rw [Int.toNat_natCast]
  rw [e, bAt_set h.len hn (by omega)]
  split
  · exact hc
  · exact h.by' _
theorem BL.moved {b : List Int} (h : BL b) {fr to : Int} (hf : Sqr fr) (ht : Sqr to) : BL (dMoved b fr to) := (h.set ht (h.by' fr)).set hf ⟨by decide, by decide, trivial⟩
theorem OneG.moved {b : List Int} (h : BL b) (hu : OneG b) {fr to : Int} (hf : Sqr fr) (ht : Sqr to) (hne : to ≠ fr) : OneG (dMoved b fr to) := by
  refine ⟨?_, ?_⟩
  · rw [cnt_moved h.len hf ht hne (by decide)]; have := hu.red; split <;> omega
  · rw [cnt_moved h.len hf ht hne (by decide)]; have := hu.black; split <;> omega
theorem bl_bytes {p : ByteArray} (hp : spIs p = true) : BL (bytesL p) := ⟨(bytesL_len p).trans (spIs_size hp), bAt_by p⟩
end Go.X

namespace Go.X
open Go

theorem pArg_eq {p : ByteArray} {side clock full : Int} : (!spIs p || ((side != 0) && (side != 1)) || decide (clock < 0) || decide (clock > 120) || decide (full < 1) || decide (full > 9999)) = rArg p side clock full := by
  have e : ((side != 0) && (side != 1)) = (decide (side < 0) || decide (side > 1)) := by
    rw [Bool.eq_iff_iff]; simp only [Bool.and_eq_true, bne_iff_ne, Bool.or_eq_true, decide_eq_true_eq]; omega
  unfold rArg
  rw [e]
  simp only [Bool.or_assoc]
theorem pArg_t {p : ByteArray} {side clock full : Int} (h : (!spIs p || ((side != 0) && (side != 1)) || decide (clock < 0) || decide (clock > 120) || decide (full < 1) || decide (full > 9999)) = true) : rArg p side clock full = true := pArg_eq ▸ h
theorem pArg_f {p : ByteArray} {side clock full : Int} (h : (!spIs p || ((side != 0) && (side != 1)) || decide (clock < 0) || decide (clock > 120) || decide (full < 1) || decide (full > 9999)) = false) : rArg p side clock full = false := pArg_eq ▸ h
def cntT (b : List Int) (i : Nat) : List Int := (List.range 256).map fun c : Nat => (((b.take i).count (c : Int) : Nat) : Int)
theorem cntT_len (b : List Int) (i : Nat) : (cntT b i).length = 256 := by simp [cntT]
theorem cntT_zero (b : List Int) : cntT b 0 = List.replicate 256 0 := by
  unfold cntT
  simp only [List.take_zero, List.count_nil]
  rw [List.map_const', List.length_range]; rfl
theorem cntT_get (b : List Int) (i : Nat) {c : Int} (hc : BY c) : (cntT b i).getD c.toNat 0 = (((b.take i).count c : Nat) : Int) := by
  have h1 := hc.lo; have h2 := hc.hi
  unfold cntT
  rw [List.getD_eq_getElem?_getD, List.getElem?_map, List.getElem?_range (by omega)]
  show (((b.take i).count ((c.toNat : Nat) : Int) : Nat) : Int) = _
  rw [show ((c.toNat : Nat) : Int) = c by omega]
set_option maxRecDepth 10000 in
theorem cntT_next {b : List Int} {i : Nat} (h : i < b.length) (hc : BY (b.getD i 0)) : cntT b (i + 1) = (cntT b i).set (b.getD i 0).toNat ((cntT b i).getD (b.getD i 0).toNat 0 + 1) := by
  have h1 := hc.lo; have h2 := hc.hi
  have e : b.getD i 0 = b[i] := by rw [List.getD_eq_getElem?_getD, List.getElem?_eq_getElem h]; rfl
  obtain ⟨x, hx⟩ : ∃ x, (cntT b i).getD (b.getD i 0).toNat 0 = x := ⟨_, rfl⟩
  rw [hx]
  rw [cntT_get b i hc] at hx
  refine List.ext_getElem (by rw [List.length_set, cntT_len, cntT_len]) fun k hk1 hk2 => ?_
  have hk : k < 256 := by rw [cntT_len] at hk1; exact hk1
  subst hx
  have el : ∀ j (hj : k < (cntT b j).length), (cntT b j)[k] = (((b.take j).count (k : Int) : Nat) : Int) := fun j hj => by
    have := cntT_get b j (c := (k : Int)) ⟨by omega, by omega, trivial⟩
    rw [List.getD_eq_getElem?_getD, Int.toNat_natCast, List.getElem?_eq_getElem hj] at this
    exact this
  rw [List.getElem_set, el, el, List.take_succ_eq_append_getElem h, List.count_append, List.count_singleton, ← e]
  by_cases hkc : (b.getD i 0).toNat = k
  · rw [if_pos hkc, show ((k : Nat) : Int) = b.getD i 0 by omega]; simp
  · rw [if_neg hkc, if_neg (by rw [beq_iff_eq]; omega)]; simp
theorem cntT_all {b : List Int} (hb : b.length = 90) {c : Int} (hc : BY c) : (cntT b 90).getD c.toNat 0 = dCnt b c := by
  rw [cntT_get b 90 hc, List.take_of_length_le (by omega), dCnt_count hb]
theorem cntT_bd (b : List Int) (i : Nat) (h : b.length = 90) {c : Int} (hc : BY c) : 0 ≤ (cntT b i).getD c.toNat 0 ∧ (cntT b i).getD c.toNat 0 ≤ 90 := by
  rw [cntT_get b i hc]
  have := List.count_le_length (a := c) (l := b.take i)
  rw [List.length_take] at this
  omega
def rightTo (b : List Int) (i : Nat) : Bool := !((List.range i).any fun k => dBadP b (Int.ofNat k))
theorem rightTo_next (b : List Int) (i : Nat) : rightTo b (i + 1) = (rightTo b i && ((bAt b (Int.ofNat i) == 46) || spMay (bAt b (Int.ofNat i)) (Int.ofNat i))) := by
  unfold rightTo
  rw [List.range_succ, List.any_append, Bool.not_or]
  congr 1
  simp only [List.any_cons, List.any_nil, Bool.or_false, dBadP, Bool.not_and, Bool.not_not]
  unfold bne
  rw [Bool.not_not]
theorem rightTo_all (b : List Int) : rightTo b 90 = !(sqs.any (dBadP b)) := by
  unfold rightTo sqs; rw [List.any_map]; rfl
theorem letL_by : ∀ i, i < 14 → BY (letL.getD i 0) := fun i hi => by
  have : ∀ i, i < 14 → 0 ≤ letL.getD i 0 ∧ letL.getD i 0 < 256 := by decide
  exact ⟨(this i hi).1, (this i hi).2, trivial⟩
theorem rightTo_zero (b : List Int) : rightTo b 0 = true := rfl
end Go.X

namespace Go.X
open Go
end Go.X

namespace Go.X
open Go
def rSq (f r : Int) : Int := if 65 ≤ f ∧ f ≤ 73 then spSquare (f - 65) (r - 48) else if 97 ≤ f ∧ f ≤ 105 then spSquare (f - 97) (r - 48) else -1
theorem square_eq (a b : Int) : spSquare a b = if 0 ≤ a ∧ a < 9 ∧ 0 ≤ b ∧ b < 10 then b * 9 + a else -1 := by
  unfold spSquare
  simp only [Bool.and_eq_true, decide_eq_true_eq, and_assoc]
theorem rSq_eq {f r : Int} : rSq f r = if 65 ≤ f ∧ f ≤ 73 ∧ 48 ≤ r ∧ r ≤ 57 then (r - 48) * 9 + (f - 65) else if 97 ≤ f ∧ f ≤ 105 ∧ 48 ≤ r ∧ r ≤ 57 then (r - 48) * 9 + (f - 97) else -1 := by
  unfold rSq
  rw [square_eq, square_eq]
  repeat' split
  all_goals first | omega | rfl
theorem rSq_hi {f r : Int} : -1 ≤ rSq f r ∧ rSq f r < 90 := by
  rw [rSq_eq]
  repeat' split
  all_goals omega
def iS (s : ByteArray) : ByteArray := if (((s.size : Int) == 5) && (byteAt s 2 == 45)) = true then s.extract 0 2 ++ s.extract 3 s.size else s
def iF (s : ByteArray) : Int := rSq (byteAt (iS s) 0) (byteAt (iS s) 1)
def iT (s : ByteArray) : Int := rSq (byteAt (iS s) 2) (byteAt (iS s) 3)
def iOk (s : ByteArray) : Bool := ((iS s).size : Int) == 4 && !(decide (iF s < 0) || decide (iT s < 0))
def iErr (s : ByteArray) : Int := if iOk s = true then 0 else 6
def iFr (s : ByteArray) : Int := if iOk s = true then iF s else 0
def iTo (s : ByteArray) : Int := if iOk s = true then iT s else 0
theorem iS_t {s : ByteArray} (h : (((s.size : Int) == 5) && (byteAt s 2 == 45)) = true) : iS s = s.extract 0 2 ++ s.extract 3 s.size := if_pos h
theorem iS_f {s : ByteArray} (h : (((s.size : Int) == 5) && (byteAt s 2 == 45)) = false) : iS s = s := if_neg (by rw [h]; exact Bool.noConfusion)
theorem size5 {s : ByteArray} (h : (((s.size : Int) == 5) && (byteAt s 2 == 45)) = true) : s.size = 5 := by
  simp only [Bool.and_eq_true, beq_iff_eq] at h; omega
theorem ok_4 {s : ByteArray} (h : (((iS s).size : Int) != 4) = true) : iErr s = 6 ∧ iFr s = 0 ∧ iTo s = 0 := by
  have : iOk s = false := by unfold iOk; rw [Bool.and_eq_false_iff]; exact .inl (by simpa using h)
  unfold iErr iFr iTo; rw [this]; simp
theorem ok_n {s : ByteArray} (h : (decide (iF s < 0) || decide (iT s < 0)) = true) : iErr s = 6 ∧ iFr s = 0 ∧ iTo s = 0 := by
  have : iOk s = false := by unfold iOk; rw [h]; simp
  unfold iErr iFr iTo; rw [this]; simp
theorem ok_y {s : ByteArray} (h4 : (((iS s).size : Int) != 4) = false) (h : (decide (iF s < 0) || decide (iT s < 0)) = false) : iErr s = 0 ∧ iFr s = iF s ∧ iTo s = iT s := by
  have : iOk s = true := by unfold iOk; rw [h]; simp only [Bool.not_false, Bool.and_true]; simpa using h4
  unfold iErr iFr iTo; rw [this]; simp
theorem okX_4 {s X : ByteArray} (e : iS s = X) (h : ((X.size : Int) != 4) = true) : iErr s = 6 ∧ iFr s = 0 ∧ iTo s = 0 := by subst e; exact ok_4 h
theorem okX_n {s X : ByteArray} (e : iS s = X) (h : (decide (rSq (byteAt X 0) (byteAt X 1) < 0) || decide (rSq (byteAt X 2) (byteAt X 3) < 0)) = true) : iErr s = 6 ∧ iFr s = 0 ∧ iTo s = 0 := by subst e; exact ok_n h
theorem okX_y {s X : ByteArray} (e : iS s = X) (h4 : ((X.size : Int) != 4) = false) (h : (decide (rSq (byteAt X 0) (byteAt X 1) < 0) || decide (rSq (byteAt X 2) (byteAt X 3) < 0)) = false) : iErr s = 0 ∧ iFr s = rSq (byteAt X 0) (byteAt X 1) ∧ iTo s = rSq (byteAt X 2) (byteAt X 3) := by subst e; exact ok_y h4 h
theorem ne4 {X : ByteArray} (h : ((X.size : Int) != 4) = false) : X.size = 4 := by
  have h2 : (X.size : Int) = 4 := bneF h
  omega
def pr4 (f t : Int) : List Int := [97 + f % 9, 48 + f / 9, 97 + t % 9, 48 + t / 9]
def spPrint (f t : Int) : ByteArray := if spIsSquare f = true ∧ spIsSquare t = true then bytesOf (pr4 f t) else ByteArray.empty
theorem print_no {f t : Int} (h : ¬ (spIsSquare f = true ∧ spIsSquare t = true)) : spPrint f t = ⟨#[]⟩ := if_neg h
theorem print_yes {f t : Int} (hf : Sqr f) (ht : Sqr t) : spPrint f t = bytesOf [97 + f % 9, 48 + f / 9] ++ bytesOf [97 + t % 9, 48 + t / 9] := by
  unfold spPrint
  rw [if_pos ⟨hf.is, ht.is⟩]
  apply ByteArray.ext
  apply Array.toList_inj.1
  rw [ByteArray.data_append, Array.toList_append, bytesOf_list, bytesOf_list, bytesOf_list]; rfl
theorem bytesOf_size (l : List Int) : (bytesOf l).size = l.length := by
  have h := congrArg List.length (bytesOf_list l)
  rw [List.length_map] at h
  exact h
theorem fileA_neg {n : Int} (h : decide (spFile n < 0) = true) : spIsSquare n = false := by
  have h := of_decide_eq_true h
  cases e : spIsSquare n with
  | false => rfl
  | true => unfold spFile at h; rw [if_pos e] at h; have := isSquare_iff.1 e; omega
theorem fileA_pos {n : Int} (h : decide (spFile n < 0) = false) : Sqr n ∧ spFile n = n % 9 ∧ spRank n = n / 9 := by
  have h := of_decide_eq_false h
  cases e : spIsSquare n with
  | false => unfold spFile at h; rw [e] at h; simp at h
  | true => have := isSquare_iff.1 e; exact ⟨⟨this.1, this.2⟩, by unfold spFile; rw [if_pos e], by unfold spRank; rw [if_pos e]⟩
theorem pr_w {n : Int} (h : decide (spFile n < 0) = false) : Sqr n ∧ [IntKind.u8.wrap (IntKind.i64.wrap (97 + spFile n)), IntKind.u8.wrap (IntKind.i64.wrap (48 + spRank n))] = [97 + n % 9, 48 + n / 9] := by
  obtain ⟨hs, e1, e2⟩ := fileA_pos h
  have h1 := hs.lo; have h2 := hs.hi
  refine ⟨hs, ?_⟩
  rw [e1, e2, wrap64 (x := 97 + n % 9) (by omega) (by omega), wrap64 (x := 48 + n / 9) (by omega) (by omega), wrapB (by omega) (by omega), wrapB (by omega) (by omega)]
theorem print_4 {f t : Int} (hf : Sqr f) (ht : Sqr t) : spPrint f t = bytesOf ((pr4 f t).take (2 * 2)) := if_pos ⟨hf.is, ht.is⟩
theorem print_n1 {f t : Int} (h : decide (spFile f < 0) = true) : spPrint f t = ⟨#[]⟩ := print_no (by rw [fileA_neg h]; simp)
theorem print_n2 {f t : Int} (h : decide (spFile t < 0) = true) : spPrint f t = ⟨#[]⟩ := print_no (by rw [fileA_neg h]; simp)
attribute [irreducible] iS iF iT iOk iErr iFr iTo rSq spPrint
end Go.X

namespace Go.X
open Go

theorem toList_loop (b : ByteArray) : ∀ (k i : Nat) (r : List UInt8), b.size - i = k → ByteArray.toList.loop b i r = r.reverse ++ b.data.toList.drop i := by
  intro k
  induction k with
  | zero =>
    intro i r h
    unfold ByteArray.toList.loop
    rw [if_neg (by omega), List.drop_of_length_le (by have : b.data.toList.length = b.size := rfl; omega), List.append_nil]
  | succ k ih =>
    intro i r h
    unfold ByteArray.toList.loop
    rw [if_pos (by omega), ih (i + 1) _ (by omega), List.reverse_cons, List.append_assoc]
    have hi : i < b.data.toList.length := by have : b.data.toList.length = b.size := rfl; omega
    rw [List.drop_eq_getElem_cons hi]
    congr 2
    have hi' : i < b.data.size := hi
    show b.data[i]! :: _ = _
    rw [getElem!_pos b.data i hi']; rfl
theorem toList_data (b : ByteArray) : b.toList = b.data.toList := toList_loop b _ 0 [] rfl
theorem strEq_eq {x y : ByteArray} (h : strEq x y = true) : x = y := by
  unfold strEq at h
  have h := beq_iff_eq.1 h
  rw [toList_data, toList_data] at h
  exact ByteArray.ext (Array.toList_inj.1 h)
def prM (m : Int × Int) : ByteArray := spPrint m.1 m.2
def spText (l : List (Int × Int)) : ByteArray := if (l.all fun m => !strEq (prM m) ⟨#[]⟩) = true then joinS (l.map prM) ⟨#[32]⟩ else ⟨#[]⟩
theorem text_bad {l : List (Int × Int)} {i : Nat} (hi : i < l.length) (h : strEq (prM (l.getD i (0, 0))) ⟨#[]⟩ = true) : spText l = ⟨#[]⟩ := by
  unfold spText
  rw [if_neg]
  intro ha
  rw [List.all_eq_true] at ha
  have := ha (l.getD i (0, 0)) (by rw [List.getD_eq_getElem?_getD, List.getElem?_eq_getElem hi]; exact List.getElem_mem hi)
  rw [h] at this; cases this
theorem text_ok {l : List (Int × Int)} (h : ∀ j, j < l.length → strEq (prM (l.getD j (0, 0))) ⟨#[]⟩ = false) : spText l = joinS (l.map prM) ⟨#[32]⟩ := by
  unfold spText
  rw [if_pos]
  rw [List.all_eq_true]
  intro m hm
  obtain ⟨j, hj, rfl⟩ := List.mem_iff_getElem.1 hm
  have := h j hj
  rw [List.getD_eq_getElem?_getD, List.getElem?_eq_getElem hj] at this
  simp only [Option.getD_some] at this
  rw [this]; rfl
theorem take_map_next {α β : Type} (f : α → β) (d : α) {l : List α} {i : Nat} (hi : i < l.length) : (l.take (i + 1)).map f = (l.take i).map f ++ [f (l.getD i d)] := by
  rw [List.take_succ_eq_append_getElem hi, List.map_append, List.getD_eq_getElem?_getD, List.getElem?_eq_getElem hi]; rfl
structure LML (l : List (Int × Int)) : Prop where
  le : l.length ≤ 4096
  u : True
  v : True
theorem print_len (f t : Int) : (spPrint f t).size ≤ 4 := by
  unfold spPrint
  split
  · rw [bytesOf_size]; exact Nat.le_refl _
  · exact Nat.zero_le _
theorem join_len (sep : List UInt8) : ∀ L : List (List UInt8), (∀ x ∈ L, x.length ≤ 4) → (Lib.join L sep).length ≤ (4 + sep.length) * L.length := by
  intro L
  induction L with
  | nil => intro _; simp [Lib.join]
  | cons x L ih =>
    intro h
    have hx := h x (by simp)
    have := ih fun y hy => h y (by simp [hy])
    cases L with
    | nil => simp [Lib.join]; omega
    | cons y L =>
      have e : Lib.join (x :: y :: L) sep = x ++ (sep ++ Lib.join (y :: L) sep) := by simp [Lib.join, List.intercalate]
      rw [e, List.length_append, List.length_append, List.length_cons, Nat.mul_succ]
      omega
theorem text_lj {l : List (Int × Int)} (h : l.length ≤ 4096) : LJ (l.map prM) ⟨#[32]⟩ := by
  refine ⟨by rw [List.length_map]; omega, ?_, trivial⟩
  refine Nat.le_trans (join_len _ _ ?_) ?_
  · intro x hx
    simp only [List.map_map, List.mem_map] at hx
    obtain ⟨m, _, rfl⟩ := hx
    exact print_len m.1 m.2
  · simp only [List.length_map]
    show 5 * l.length ≤ _
    omega
def sameM (l m : List (Int × Int)) : Bool := decide (l = m)
structure LL (l m : List (Int × Int)) : Prop where
  l : l.length ≤ 1000000
  m : m.length ≤ 1000000
  v : True
theorem same_len {l m : List (Int × Int)} (h : ((l.length : Int) != (m.length : Int)) = true) : sameM l m = false := by
  unfold sameM
  rw [decide_eq_false_iff_not]
  intro e
  subst e
  simp at h
theorem same_no {l m : List (Int × Int)} {i : Nat} (hi : i < l.length) (hm : i < m.length) (h : (!(EK.eqb (.pair (.int .i64) (.int .i64)) (l.getD i (0, 0)) (m.getD i (0, 0)))) = true) : sameM l m = false := by
  unfold sameM
  rw [decide_eq_false_iff_not]
  intro e
  subst e
  simp [EK.eqb] at h
theorem same_yes {l m : List (Int × Int)} (hl : l.length = m.length) (h : ∀ j, j < l.length → l.getD j (0, 0) = m.getD j (0, 0)) : sameM l m = true := by
  unfold sameM
  rw [decide_eq_true_eq]
  refine List.ext_getElem hl fun j h1 h2 => ?_
  have := h j h1
  rwa [List.getD_eq_getElem?_getD, List.getD_eq_getElem?_getD, List.getElem?_eq_getElem h1, List.getElem?_eq_getElem h2] at this
theorem pair_eq {x y : Int × Int} (h : (!(EK.eqb (.pair (.int .i64) (.int .i64)) x y)) = false) : x = y := by
  have h := bn h
  simp [EK.eqb] at h
  exact Prod.ext h.1 h.2
end Go.X

namespace Go.X
open Go

def atoiV (s : ByteArray) : Int := match Lib.atoiAll s.data.toList with
  | .ok v => v
  | .range => Lib.atoiSat s.data.toList
  | _ => 0
def atoiOk (s : ByteArray) : Bool := match Lib.atoiAll s.data.toList with
  | .ok _ => true
  | _ => false
def itoaB (n : Int) : ByteArray := ⟨(Lib.itoa n).toArray⟩
def numOk (s : ByteArray) : Bool := ((atoiOk s && decide (atoiV s ≥ 0)) && decide ((s.size : Int) ≤ 4)) && strEq (itoaB (atoiV s)) s
theorem atoiV_bounds (s : ByteArray) : -9223372036854775808 ≤ atoiV s ∧ atoiV s ≤ 9223372036854775807 := by
  unfold atoiV
  split
  · rename_i v h; exact Lib.atoiAll_bounds h
  · exact Lib.atoiSat_bounds _
  · exact ⟨by decide, by decide⟩
abbrev Pos4 : Type := ByteArray × Int × Int × Int
def fld (s : ByteArray) (i : Nat) : ByteArray := (pieces 32 s).getD i ByteArray.empty
def wrb : ByteArray := ⟨#[119, 114, 98]⟩
def sideP (t : ByteArray) : Int := IntKind.i64.wrap (Int.tdiv (Lib.index wrb.data.toList t.data.toList) 2)
def sideOk (t : ByteArray) : Bool := decide (t.size = 1) && Lib.contains wrb.data.toList t.data.toList
def rdBody (s : ByteArray) (k f : Int) : Option Pos4 := if cellsOk (bytesL (fld s 0)) = true ∧ sideOk (fld s 1) = true then some (bytesOf (cellsT (bytesL (fld s 0))), sideP (fld s 1), k, f) else none
def rdP (s : ByteArray) : Option Pos4 :=
  if (pieces 32 s).length = 6 then (if numOk (fld s 4) = true ∧ numOk (fld s 5) = true ∧ fld s 2 = ⟨#[45]⟩ ∧ fld s 3 = ⟨#[45]⟩ then rdBody s (atoiV (fld s 4)) (atoiV (fld s 5)) else none)
  else if (pieces 32 s).length = 2 then rdBody s 0 1 else none
def ckP (o : Option Pos4) : Pos4 × Int := match o with
  | none => ((ByteArray.empty, 0, 0, 0), 6)
  | some (b, sd, k, f) => if rCheck b sd k f = 0 then ((b, sd, k, f), 0) else ((ByteArray.empty, 0, 0, 0), rCheck b sd k f)
def parseP (s : ByteArray) : Pos4 × Int := ckP (rdP s)
theorem strEq_iff (x y : ByteArray) : strEq x y = true ↔ x = y := ⟨strEq_eq, fun h => by subst h; unfold strEq; rw [beq_self_eq_true]⟩
theorem len_is6 {l : List ByteArray} (h : (Int.ofNat l.length == 6) = true) : l.length = 6 := by exact Int.ofNat.inj (beq_iff_eq.1 h)
theorem len_is2 {l : List ByteArray} (h : (Int.ofNat l.length == 2) = true) : l.length = 2 := by exact Int.ofNat.inj (beq_iff_eq.1 h)
theorem len_not6 {l : List ByteArray} (h : (Int.ofNat l.length == 6) = false) : l.length ≠ 6 := fun e => by rw [e] at h; exact Bool.noConfusion h
theorem len_not2 {l : List ByteArray} (h : (Int.ofNat l.length == 2) = false) : l.length ≠ 2 := fun e => by rw [e] at h; exact Bool.noConfusion h
theorem parse_bad {s : ByteArray} (h : rdP s = none) : parseP s = ((ByteArray.empty, 0, 0, 0), 6) := by unfold parseP; rw [h]; rfl
theorem rd_no {s : ByteArray} (h6 : (pieces 32 s).length ≠ 6) (h2 : (pieces 32 s).length ≠ 2) : rdP s = none := by unfold rdP; rw [if_neg h6, if_neg h2]
theorem rd_two {s : ByteArray} (h2 : (pieces 32 s).length = 2) : rdP s = rdBody s 0 1 := by unfold rdP; rw [if_neg (by omega), if_pos h2]
theorem rd_bad {s : ByteArray} (h6 : (pieces 32 s).length = 6) (hb : (!numOk (fld s 4) || !numOk (fld s 5) || !strEq (fld s 2) ⟨#[45]⟩ || !strEq (fld s 3) ⟨#[45]⟩) = true) : rdP s = none := by
  unfold rdP
  rw [if_pos h6, if_neg]
  rintro ⟨h1, h2, h3, h4⟩
  rw [h1, h2, (strEq_iff _ _).2 h3, (strEq_iff _ _).2 h4] at hb
  exact Bool.noConfusion hb
theorem rd_six {s : ByteArray} (h6 : (pieces 32 s).length = 6) (hb : (!numOk (fld s 4) || !numOk (fld s 5) || !strEq (fld s 2) ⟨#[45]⟩ || !strEq (fld s 3) ⟨#[45]⟩) = false) : rdP s = rdBody s (atoiV (fld s 4)) (atoiV (fld s 5)) := by
  unfold rdP
  simp only [Bool.or_eq_false_iff, Bool.not_eq_false', strEq_iff] at hb
  rw [if_pos h6, if_pos ⟨hb.1.1.1, hb.1.1.2, hb.1.2, hb.2⟩]
theorem body_bad0 {s : ByteArray} {k f : Int} (h : (!cellsOk (bytesL (fld s 0))) = true) : rdBody s k f = none := by
  unfold rdBody
  rw [if_neg]
  rintro ⟨h1, _⟩
  rw [h1] at h; exact Bool.noConfusion h
theorem body_bad1 {s : ByteArray} {k f : Int} (h : (((fld s 1).size : Int) != 1 || !Lib.contains wrb.data.toList (fld s 1).data.toList) = true) : rdBody s k f = none := by
  unfold rdBody
  rw [if_neg]
  rintro ⟨_, h1⟩
  simp only [sideOk, Bool.and_eq_true, decide_eq_true_eq] at h1
  rw [h1.2] at h
  simp [h1.1] at h
theorem body_ok {s : ByteArray} {k f : Int} (h0 : (!cellsOk (bytesL (fld s 0))) = false) (h : (((fld s 1).size : Int) != 1 || !Lib.contains wrb.data.toList (fld s 1).data.toList) = false) : rdBody s k f = some (bytesOf (cellsT (bytesL (fld s 0))), sideP (fld s 1), k, f) := by
  unfold rdBody
  simp only [Bool.or_eq_false_iff, Bool.not_eq_false', bne_eq_false_iff_eq] at h0 h
  rw [if_pos]
  refine ⟨h0, ?_⟩
  simp only [sideOk, Bool.and_eq_true, decide_eq_true_eq]
  exact ⟨by omega, h.2⟩
theorem parse_chk {s b : ByteArray} {sd k f : Int} (h : rdP s = some (b, sd, k, f)) (hc : (rCheck b sd k f != 0) = true) : parseP s = ((ByteArray.empty, 0, 0, 0), rCheck b sd k f) := by
  unfold parseP; rw [h]; unfold ckP; simp only; rw [if_neg (by simpa using hc)]
theorem parse_ok {s b : ByteArray} {sd k f : Int} (h : rdP s = some (b, sd, k, f)) (hc : (rCheck b sd k f != 0) = false) : parseP s = ((b, sd, k, f), 0) := by
  unfold parseP; rw [h]; unfold ckP; simp only; rw [if_pos (by simpa using hc)]
theorem fld_tz {s : ByteArray} (h : s.size ≤ 4000000) (i : Nat) : (fld s i).size ≤ 4000000 := by
  unfold fld
  rw [List.getD_eq_getElem?_getD]
  cases hi : (pieces 32 s)[i]? with
  | none => exact Nat.zero_le _
  | some t =>
    have := pieces_short (List.mem_of_getElem? hi)
    show t.size ≤ _; omega
end Go.X

namespace Go.X
open Go
theorem bL_at (s : ByteArray) (n : Nat) : (bytesL s).getD n 0 = byteAt s n := by
  unfold bytesL byteAt
  simp only [List.getD_eq_getElem?_getD, List.getElem?_map]
  cases s.data.toList[n]? <;> rfl
theorem bL_len (s : ByteArray) : (bytesL s).length = s.size := by simp [bytesL]
theorem bytesOf_app (a b : List Int) : bytesOf (a ++ b) = bytesOf a ++ bytesOf b := by
  apply ByteArray.ext
  apply Array.toList_inj.1
  rw [ByteArray.data_append, Array.toList_append, bytesOf_list, bytesOf_list, bytesOf_list, List.map_append]
end Go.X

namespace Go.X
open Go

def num4V (b : List Int) : Int := match numGo b with | some n => n | none => 0
def num4Ok (b : List Int) : Bool := match numGo b with | some _ => true | none => false
theorem nstep_t {n c : Int} (h : 48 ≤ c ∧ c ≤ 57) : nstep (some n) c = some (10 * n + (c - 48)) := by unfold nstep; simp only; rw [if_pos h]
theorem nstep_f {n c : Int} (h : ¬ (48 ≤ c ∧ c ≤ 57)) : nstep (some n) c = none := by unfold nstep; simp only; rw [if_neg h]
end Go.X

namespace Go.X
open Go

theorem fld_list {s : ByteArray} {n : Nat} (h : (pieces 32 s).length = n) : cutAt 32 (bytesL s) = (List.range n).map fun i => bytesL (fld s i) := by
  rw [← pieces_map]
  apply List.ext_getElem
  · simp [h]
  · intro i h1 h2
    simp only [List.getElem_map, List.getElem_range]
    unfold fld
    rw [List.getD_eq_getElem?_getD, List.getElem?_eq_getElem (by simpa using h1)]; rfl
theorem form_two {s : ByteArray} (hz : decide ((s.size : Int) > 1000) = false) (h : (pieces 32 s).length = 2) : form4 s = match cellsGo (bytesL (fld s 0)), sideGo (bytesL (fld s 1)) with | some b, some sd => some (b, sd, 0, 1) | _, _ => none := by
  have := of_decide_eq_false hz
  unfold form4; rw [if_neg (by omega), fld_list h]; rfl
theorem form_six {s : ByteArray} (hz : decide ((s.size : Int) > 1000) = false) (h : (pieces 32 s).length = 6) : form4 s = match cellsGo (bytesL (fld s 0)), sideGo (bytesL (fld s 1)), numGo (bytesL (fld s 4)), numGo (bytesL (fld s 5)) with | some b, some sd, some n, some m => if bytesL (fld s 2) = [45] ∧ bytesL (fld s 3) = [45] then some (b, sd, n, m) else none | _, _, _, _ => none := by
  have := of_decide_eq_false hz
  unfold form4; rw [if_neg (by omega), fld_list h]; rfl
theorem form_other {s : ByteArray} (h : (Int.ofNat (pieces 32 s).length != 2 && Int.ofNat (pieces 32 s).length != 6) = true) : form4 s = none := by
  unfold form4
  split
  · rfl
  · have e : (cutAt 32 (bytesL s)).length = (pieces 32 s).length := (pieces_length 32 s).symm
    unfold formGo
    split
    · rename_i hx; rw [hx] at e; rw [← e] at h; exact Bool.noConfusion h
    · rename_i hx; rw [hx] at e; rw [← e] at h; exact Bool.noConfusion h
    · rfl
theorem one_iff {t : ByteArray} {n : UInt8} : bytesL t = [(n.toNat : Int)] ↔ strEq t ⟨#[n]⟩ = true := by
  rw [strEq_iff]
  constructor
  · intro h
    have h2 := congrArg bytesOf h
    have e : bytesOf (bytesL t) = t := by
      apply ByteArray.ext
      apply Array.toList_inj.1
      rw [bytesOf_list, of_bytesL]
    rw [e] at h2
    rw [h2]
    apply ByteArray.ext
    apply Array.toList_inj.1
    rw [bytesOf_list]; simp
  · rintro rfl; rfl
theorem p4_bad {s : ByteArray} (h : form4 s = none) : pos4 s = (ByteArray.empty, 0, 0, 0) ∧ err4 s = 6 := by unfold pos4 err4; rw [h]; exact ⟨rfl, rfl⟩
end Go.X

namespace Go.X
open Go

abbrev iL (l : List UInt8) : List Int := l.map fun b => (b.toNat : Int)
theorem iL_app (a b : List UInt8) : iL (a ++ b) = iL a ++ iL b := List.map_append ..
theorem dig_nat {k : Nat} (h : k < 10) : (((UInt8.ofNat (48 + k)).toNat : Nat) : Int) = 48 + k := by
  rw [UInt8.toNat_ofNat']; omega
theorem dec_val (u : Nat) : (iL (Lib.decDigits u)).foldl nstep (some 0) = some (u : Int) := by
  induction u using Nat.strongRecOn with
  | _ u ih =>
    rw [Lib.decDigits]
    split
    · rename_i h
      show nstep (some 0) (((UInt8.ofNat (48 + u)).toNat : Nat) : Int) = _
      rw [dig_nat h, nstep_t (by omega)]; congr 1; omega
    · rw [iL_app, List.foldl_append, ih _ (by omega)]
      show nstep (some _) (((UInt8.ofNat (48 + u % 10)).toNat : Nat) : Int) = _
      rw [dig_nat (Nat.mod_lt _ (by decide)), nstep_t (by omega)]; congr 1; omega
theorem head_app {a b : List UInt8} (h : a ≠ []) : (a ++ b).head? = a.head? := by
  cases a with
  | nil => exact absurd rfl h
  | cons x a => rfl
theorem dec_ne (u : Nat) : Lib.decDigits u ≠ [] := by
  rw [Lib.decDigits]; split <;> simp
theorem dec_head (u : Nat) : (Lib.decDigits u).head? = some 48 → u = 0 := by
  induction u using Nat.strongRecOn with
  | _ u ih =>
    rw [Lib.decDigits]
    split
    · rename_i h
      intro h2
      simp only [List.head?_cons, Option.some.injEq] at h2
      have := congrArg UInt8.toNat h2
      rw [UInt8.toNat_ofNat'] at this
      have e : (48 : UInt8).toNat = 48 := rfl
      omega
    · intro h2
      rw [head_app (dec_ne _)] at h2
      have := ih _ (by omega) h2
      omega
theorem dec_digit (u : Nat) : ∀ c ∈ Lib.decDigits u, 48 ≤ c.toNat ∧ c.toNat ≤ 57 := by
  induction u using Nat.strongRecOn with
  | _ u ih =>
    rw [Lib.decDigits]
    split
    · rename_i h
      intro c hc
      rw [List.mem_singleton.1 hc, UInt8.toNat_ofNat']; omega
    · intro c hc
      rcases List.mem_append.1 hc with hc | hc
      · exact ih _ (by omega) c hc
      · rw [List.mem_singleton.1 hc, UInt8.toNat_ofNat']; omega
theorem iL_head {l : List UInt8} (h : (iL l).getD 0 0 = 48) : l.head? = some 48 := by
  cases l with
  | nil => exact absurd h (by decide)
  | cons x l =>
    have h2 : ((x.toNat : Nat) : Int) = 48 := h
    simp only [List.head?_cons, Option.some.injEq]
    exact UInt8.toNat_inj.1 (by have e : (48 : UInt8).toNat = 48 := rfl; omega)
theorem head_iL {l : List UInt8} (h : l.head? = some 48) : (iL l).getD 0 0 = 48 := by
  cases l with
  | nil => cases h
  | cons x l => simp only [List.head?_cons, Option.some.injEq] at h; subst h; rfl
theorem num_dec {u : Nat} (h : (Lib.decDigits u).length ≤ 4) : numGo (iL (Lib.decDigits u)) = some (u : Int) := by
  unfold numGo
  rw [if_neg, dec_val]
  rintro (h1 | h1 | ⟨h1, h2⟩)
  · exact dec_ne u (List.map_eq_nil_iff.1 h1)
  · rw [List.length_map] at h1; omega
  · have := dec_head u (iL_head h1)
    subst this
    rw [Lib.decDigits_one (by decide)] at h2
    exact absurd h2 (by decide)
theorem nfold_bounds : ∀ (l : List Int) (a n : Int), 0 ≤ a → l.foldl nstep (some a) = some n → 0 ≤ n ∧ n + 1 ≤ (a + 1) * 10 ^ l.length := by
  intro l
  induction l with
  | nil => intro a n ha h; cases h; simp; omega
  | cons x l ih =>
    intro a n ha h
    rw [List.foldl_cons] at h
    by_cases hx : 48 ≤ x ∧ x ≤ 57
    · rw [nstep_t hx] at h
      obtain ⟨h1, h2⟩ := ih _ _ (by omega) h
      refine ⟨h1, Int.le_trans h2 ?_⟩
      rw [List.length_cons, Int.pow_succ, Int.mul_comm _ 10, ← Int.mul_assoc]
      exact Int.mul_le_mul_of_nonneg_right (by omega) (Int.pow_nonneg (by decide))
    · rw [nstep_f hx, nstep_none] at h; cases h
theorem dec_of : ∀ (k : Nat) (l : List UInt8), l.length = k → ∀ n : Int, l ≠ [] → (l.head? = some 48 → l.length = 1) → (iL l).foldl nstep (some 0) = some n → Lib.decDigits n.toNat = l := by
  intro k
  induction k with
  | zero => intro l hl n hne; exact absurd (List.length_eq_zero_iff.1 hl) hne
  | succ k ih =>
    intro l hl n hne hh hn
    obtain ⟨m, c, rfl⟩ : ∃ m c, l = m ++ [c] := ⟨l.dropLast, l.getLast hne, (List.dropLast_concat_getLast hne).symm⟩
    rw [iL_app, List.foldl_append] at hn
    have hc : 48 ≤ ((c.toNat : Nat) : Int) ∧ ((c.toNat : Nat) : Int) ≤ 57 := by
      cases hv : (iL m).foldl nstep (some 0) with
      | none => rw [hv] at hn; exact absurd hn (by rw [nstep_none]; simp)
      | some v =>
        rw [hv] at hn
        by_cases hx : 48 ≤ ((c.toNat : Nat) : Int) ∧ ((c.toNat : Nat) : Int) ≤ 57
        · exact hx
        · have : nstep (some v) ((c.toNat : Nat) : Int) = some n := hn
          rw [nstep_f hx] at this; cases this
    cases hv : (iL m).foldl nstep (some 0) with
    | none => rw [hv] at hn; exact absurd hn (by rw [nstep_none]; simp)
    | some v =>
      rw [hv] at hn
      have hn' : nstep (some v) ((c.toNat : Nat) : Int) = some n := hn
      rw [nstep_t hc] at hn'
      cases hn'
      have hv0 := (nfold_bounds _ _ _ (by decide) hv).1
      by_cases hm : m = []
      · subst hm
        have : v = 0 := by cases hv; rfl
        subst this
        rw [Lib.decDigits_one (by omega)]
        show [_] = [c]
        congr 1
        apply UInt8.toNat_inj.1
        rw [UInt8.toNat_ofNat']; omega
      · have hd := ih m (by rw [List.length_append] at hl; simp only [List.length_singleton] at hl; omega) v hm (by
          intro h48
          have := hh (by rw [head_app hm]; exact h48)
          rw [List.length_append] at this
          have h3 : m.length ≠ 0 := fun e => hm (List.length_eq_zero_iff.1 e)
          simp only [List.length_singleton] at this
          omega) hv
        have hv1 : 1 ≤ v := by
          rcases Int.lt_or_le 0 v with h | h
          · omega
          · have e0 : v = 0 := by omega
            subst e0
            have e1 : m = [48] := by rw [← hd]; exact Lib.decDigits_one (by decide)
            subst e1
            have := hh rfl
            simp at this
        rw [Lib.decDigits, dif_neg (by omega), show (10 * v + (((c.toNat : Nat) : Int) - 48)).toNat / 10 = v.toNat by omega, hd]
        congr 2
        apply UInt8.toNat_inj.1
        rw [UInt8.toNat_ofNat']; omega
abbrev noNum : Lib.NumEnd Nat := Lib.parseMag []
theorem parse_fold : ∀ (l : List UInt8) (a : Nat), (a + 1) * 10 ^ l.length ≤ 1000000000000000000 → Lib.parseUint10 a l = match (iL l).foldl nstep (some (a : Int)) with | some n => .ok n.toNat | none => noNum := by
  intro l
  induction l with
  | nil => intro a _; rfl
  | cons c l ih =>
    intro a ha
    rw [List.length_cons, Nat.pow_succ] at ha
    have hp : 1 ≤ 10 ^ l.length := Nat.one_le_pow _ _ (by decide)
    have ha2 : (a + 1) * 10 ≤ 1000000000000000000 := by
      refine Nat.le_trans ?_ ha
      rw [Nat.mul_comm (10 ^ l.length) 10, ← Nat.mul_assoc]
      exact Nat.le_mul_of_pos_right _ hp
    show Lib.parseUint10 a (c :: l) = match (iL l).foldl nstep (nstep (some (a : Int)) ((c.toNat : Nat) : Int)) with | some n => .ok n.toNat | none => noNum
    rw [Lib.parseUint10]
    by_cases hc : 48 ≤ c.toNat ∧ c.toNat ≤ 57
    · rw [if_pos hc, if_neg (by omega), if_neg (by omega), ih, nstep_t (by omega)]
      · rw [show ((a * 10 + (c.toNat - 48) : Nat) : Int) = 10 * (a : Int) + ((c.toNat : Int) - 48) by omega]
      · refine Nat.le_trans ?_ ha
        rw [Nat.mul_comm (10 ^ l.length) 10, ← Nat.mul_assoc]
        exact Nat.mul_le_mul_right _ (by omega)
    · rw [if_neg hc, nstep_f (by omega), nstep_none]; rfl
theorem num_same (t : ByteArray) : numOk t = num4Ok (bytesL t) ∧ (numOk t = true → atoiV t = num4V (bytesL t)) := by
  have e0 : bytesL t = iL t.data.toList := rfl
  have es : t.data.toList.length = t.size := rfl
  have fwd : numOk t = true → numGo (bytesL t) = some (atoiV t) := by
    intro h
    unfold numOk at h
    simp only [Bool.and_eq_true, decide_eq_true_eq] at h
    obtain ⟨⟨⟨_, h0⟩, h4⟩, h5⟩ := h
    have h6 : Lib.itoa (atoiV t) = t.data.toList := by
      have := congrArg (fun x : ByteArray => x.data.toList) (strEq_eq h5)
      simpa [itoaB] using this
    unfold Lib.itoa at h6
    rw [if_neg (by omega)] at h6
    rw [e0, ← h6, num_dec (by rw [h6, es]; omega)]
    congr 1; omega
  have bwd : ∀ n, numGo (bytesL t) = some n → numOk t = true := by
    intro n h
    unfold numGo at h
    split at h
    · cases h
    · rename_i hh
      have hne : t.data.toList ≠ [] := fun e => hh (.inl (by rw [e0, e]; rfl))
      have hl : t.data.toList.length ≤ 4 := by
        have h1 : ¬ 4 < (bytesL t).length := fun e => hh (.inr (.inl e))
        rw [e0, List.length_map] at h1; omega
      have hb := nfold_bounds _ _ _ (by decide) h
      have hp : (10 : Int) ^ (bytesL t).length ≤ 10 ^ 4 := by
        rw [e0, List.length_map]
        have : t.data.toList.length = 0 ∨ t.data.toList.length = 1 ∨ t.data.toList.length = 2 ∨ t.data.toList.length = 3 ∨ t.data.toList.length = 4 := by omega
        rcases this with e | e | e | e | e <;> rw [e] <;> decide
      have hd := dec_of _ t.data.toList rfl n hne (by
        intro h48
        rcases Nat.lt_or_ge 1 t.data.toList.length with h2 | h2
        · exact absurd (.inr (.inr ⟨by rw [e0]; exact head_iL h48, by rw [e0, List.length_map]; exact h2⟩)) hh
        · have : t.data.toList.length ≠ 0 := fun e => hne (List.length_eq_zero_iff.1 e)
          omega) h
      have hu : Lib.parseUint10 0 t.data.toList = .ok n.toNat := by
        rw [parse_fold]
        · rw [e0] at h
          show (match List.foldl nstep (some 0) (iL t.data.toList) with | some n => Lib.NumEnd.ok n.toNat | none => noNum) = _
          rw [h]
        · have : 10 ^ t.data.toList.length ≤ 10 ^ 4 := Nat.pow_le_pow_right (by decide) hl
          omega
      have ha : Lib.atoiAll t.data.toList = .ok n := by
        cases hL : t.data.toList with
        | nil => exact absurd hL hne
        | cons c r =>
          have hc := dec_digit n.toNat c (by rw [hd, hL]; simp)
          rw [Lib.atoiAll_plain c r (by omega) (by omega), ← hL]
          unfold Lib.parseMag
          rw [if_neg hne, hu]
          unfold Lib.signless
          simp only
          rw [if_neg (by omega)]
          congr 1; omega
      have hv : atoiV t = n := by unfold atoiV; rw [ha]
      have ho : atoiOk t = true := by unfold atoiOk; rw [ha]
      unfold numOk
      rw [hv, ho]
      have h1 : strEq (itoaB n) t = true := by
        rw [strEq_iff]
        unfold itoaB Lib.itoa
        rw [if_neg (by omega), hd]
      rw [h1]
      simp only [Bool.and_true, Bool.true_and, Bool.and_eq_true, decide_eq_true_eq]
      exact ⟨by omega, by omega⟩
  constructor
  · cases hg : numGo (bytesL t) with
    | some n => rw [bwd n hg]; unfold num4Ok; rw [hg]
    | none =>
      unfold num4Ok; rw [hg]
      cases ho : numOk t with
      | false => rfl
      | true => rw [fwd ho] at hg; cases hg
  · intro h
    unfold num4V
    rw [fwd h]

theorem wrb_tab : ∀ n : Nat, n < 256 → sideGo [(n : Int)] = if Lib.contains wrb.data.toList [UInt8.ofNat n] = true then some (IntKind.i64.wrap (Int.tdiv (Lib.index wrb.data.toList [UInt8.ofNat n]) 2)) else none := by decide +kernel
theorem side_same (t : ByteArray) : sideGo (bytesL t) = if sideOk t = true then some (sideP t) else none := by
  by_cases h1 : t.size = 1
  · obtain ⟨c, rfl, _⟩ := one_byte h1
    have := wrb_tab c.toNat (UInt8.toNat_lt c)
    rw [UInt8.ofNat_toNat] at this
    unfold sideOk sideP
    rw [show (decide ((⟨#[c]⟩ : ByteArray).size = 1)) = true from rfl, Bool.true_and]
    exact this
  · have h2 : sideOk t = false := by unfold sideOk; rw [decide_eq_false h1, Bool.false_and]
    rw [h2, if_neg (by decide)]
    unfold sideGo
    have hl : (bytesL t).length ≠ 1 := by rw [bL_len]; exact h1
    rw [if_neg, if_neg]
    · intro h; rw [h] at hl; exact hl rfl
    · rintro (h | h) <;> (rw [h] at hl; exact hl rfl)
theorem cells_same (b : List Int) : cellsGo b = if cellsOk b = true then some (cellsT b) else none := by
  unfold cellsGo cellsOk cellsT
  show (if _ then cellsR b else none) = _
  cases h : cellsR b with
  | none => simp
  | some o => by_cases h10 : (cutAt 47 b).length = 10 <;> simp [h10]
def toP4 (o : Option (List Int × Int × Int × Int)) : Option Pos4 := o.map fun x => (bytesOf x.1, x.2.1, x.2.2.1, x.2.2.2)
theorem rd_form {s : ByteArray} (hs : s.size ≤ 1000) : rdP s = toP4 (form4 s) := by
  have hz : decide ((s.size : Int) > 1000) = false := decide_eq_false (by omega)
  unfold rdP
  by_cases h6 : (pieces 32 s).length = 6
  · rw [if_pos h6, form_six hz h6, cells_same, side_same]
    obtain ⟨n4, v4⟩ := num_same (fld s 4)
    obtain ⟨n5, v5⟩ := num_same (fld s 5)
    unfold rdBody
    unfold num4Ok at n4 n5; unfold num4V at v4 v5
    have e2 : bytesL (fld s 2) = [45] ↔ fld s 2 = ⟨#[45]⟩ := (one_iff (n := 45)).trans (strEq_iff _ _)
    have e3 : bytesL (fld s 3) = [45] ↔ fld s 3 = ⟨#[45]⟩ := (one_iff (n := 45)).trans (strEq_iff _ _)
    cases hc : cellsOk (bytesL (fld s 0)) <;> cases hsd : sideOk (fld s 1) <;> cases h4 : numGo (bytesL (fld s 4)) <;> cases h5 : numGo (bytesL (fld s 5)) <;> rw [h4] at n4 v4 <;> rw [h5] at n5 v5 <;> simp only [n4, n5, e2, e3, toP4] <;> simp
    rw [v4 n4, v5 n5]
  · rw [if_neg h6]
    by_cases h2 : (pieces 32 s).length = 2
    · rw [if_pos h2, form_two hz h2, cells_same, side_same]
      unfold rdBody
      cases hc : cellsOk (bytesL (fld s 0)) <;> cases hsd : sideOk (fld s 1) <;> simp [toP4]
    · rw [if_neg h2, form_other (by
        simp only [Bool.and_eq_true, bne_iff_ne, ne_eq]
        exact ⟨fun e => h2 (Int.ofNat.inj e), fun e => h6 (Int.ofNat.inj e)⟩)]
      rfl
theorem parse_same {s : ByteArray} (hs : s.size ≤ 1000) : parseP s = (pos4 s, err4 s) := by
  unfold parseP
  rw [rd_form hs]
  unfold pos4 err4
  cases h : form4 s with
  | none => rfl
  | some x =>
    obtain ⟨b, sd, k, f⟩ := x
    show ckP (some (bytesOf b, sd, k, f)) = _
    unfold ckP
    simp only
    by_cases hc : rCheck (bytesOf b) sd k f = 0
    · rw [if_pos hc, if_pos hc, hc]
    · rw [if_neg hc, if_neg hc]
end Go.X

namespace Go.X
open Go

def digL (n : Int) : List Int := iL (Lib.decDigits n.toNat)
theorem iL_bytes (l : List UInt8) : bytesOf (iL l) = ⟨l.toArray⟩ := by
  apply ByteArray.ext
  apply Array.toList_inj.1
  rw [bytesOf_list]
  show (l.map _).map _ = l
  rw [List.map_map]
  conv => rhs; rw [← List.map_id l]
  refine List.map_congr_left fun c _ => ?_
  show UInt8.ofNat ((c.toNat : Int)).toNat = c
  rw [Int.toNat_natCast, UInt8.ofNat_toNat]
theorem itoa_dig {n : Int} (h : 0 ≤ n) : itoaB n = bytesOf (digL n) := by
  unfold itoaB Lib.itoa digL
  rw [if_neg (by omega), iL_bytes]
theorem dig_one {n : Int} (h0 : 0 ≤ n) (h : n < 10) : digL n = [48 + n] := by
  unfold digL
  rw [Lib.decDigits_one (by omega)]
  show [(((UInt8.ofNat (48 + n.toNat)).toNat : Nat) : Int)] = _
  rw [dig_nat (by omega)]; congr 1; omega
theorem dig_more {n : Int} (h : 10 ≤ n) : digL n = digL (n / 10) ++ [48 + n % 10] := by
  unfold digL
  rw [Lib.decDigits, dif_neg (by omega), iL_app, show (n / 10).toNat = n.toNat / 10 by omega]
  congr 1
  show [(((UInt8.ofNat (48 + n.toNat % 10)).toNat : Nat) : Int)] = _
  rw [dig_nat (Nat.mod_lt _ (by decide))]; congr 1; omega
theorem dig_bd (n : Int) : ∀ c ∈ digL n, 48 ≤ c ∧ c ≤ 57 := by
  intro c hc
  obtain ⟨x, hx, rfl⟩ := List.mem_map.1 hc
  have := dec_digit _ x hx
  omega
theorem dig_num {n : Int} (h0 : 0 ≤ n) (h : n ≤ 9999) : numGo (digL n) = some n ∧ (digL n).length ≤ 4 := by
  have hl : (Lib.decDigits n.toNat).length ≤ 4 := by
    rw [Lib.decDigits_length]
    have h1 : ∀ u, u < 10 → Lib.nDigits u = 1 := fun u hu => Lib.nDigits_small hu
    have h2 : ∀ u, u < 100 → Lib.nDigits u ≤ 2 := fun u hu => by
      by_cases hh : u < 10
      · rw [h1 u hh]; decide
      · rw [Lib.nDigits_big hh, h1 _ (by omega)]; exact Nat.le_refl _
    have h3 : ∀ u, u < 1000 → Lib.nDigits u ≤ 3 := fun u hu => by
      by_cases hh : u < 10
      · rw [h1 u hh]; decide
      · rw [Lib.nDigits_big hh]; have := h2 (u / 10) (by omega); omega
    by_cases hh : n.toNat < 10
    · rw [h1 _ hh]; decide
    · rw [Lib.nDigits_big hh]; have := h3 (n.toNat / 10) (by omega); omega
  constructor
  · unfold digL
    rw [num_dec hl]; congr 1; omega
  · unfold digL; rw [List.length_map]; exact hl

def gapL (k : Int) : List Int := if 0 < k then digL k else []
def rowStep (st : List Int × Int) (c : Int) : List Int × Int := if c = 46 then (st.1, st.2 + 1) else (st.1 ++ gapL st.2 ++ [c], 0)
def rowEnd (st : List Int × Int) : List Int := st.1 ++ gapL st.2
def rowT (l : List Int) : List Int := rowEnd (l.foldl rowStep ([], 0))
def cellsB (l : List Int) : Prop := ∀ c ∈ l, spIsCell c = true ∧ 0 ≤ c ∧ c < 256
theorem piece_tab : ∀ n : Nat, n < 256 → 0 ≤ spSide (n : Int) → letter4 n = n ∧ ¬ (49 ≤ (n : Int) ∧ (n : Int) ≤ 57) ∧ (n : Int) ≠ 46 ∧ (n : Int) ≠ 47 ∧ (n : Int) ≠ 32 := by decide +kernel
theorem piece_at {c : Int} (hb : 0 ≤ c ∧ c < 256) (h : 0 ≤ spSide c) : letter4 c = c ∧ ¬ (49 ≤ c ∧ c ≤ 57) ∧ c ≠ 46 ∧ c ≠ 47 ∧ c ≠ 32 := by
  have := piece_tab c.toNat (by omega)
  rw [show ((c.toNat : Nat) : Int) = c by omega] at this
  exact this h
theorem cell_two {c : Int} (h : spIsCell c = true) : c = 46 ∨ 0 ≤ spSide c := by
  unfold spIsCell at h
  rw [Bool.or_eq_true, beq_iff_eq, decide_eq_true_eq] at h; exact h
theorem letter_dig : ∀ k : Nat, k < 10 → letter4 (48 + k) = 48 + (k : Int) := by decide
theorem gap_read {q : List Int} {k : Int} (h0 : 0 ≤ k) (h : k < 10) : (gapL k).foldl rstep (some q) = some (q ++ List.replicate k.toNat 46) := by
  unfold gapL
  split
  · rw [dig_one h0 h]
    show rstep (some q) (48 + k) = _
    have hl := letter_dig k.toNat (by omega)
    rw [show ((k.toNat : Nat) : Int) = k by omega] at hl
    unfold rstep
    simp only
    rw [hl, if_pos (by omega), show (48 + k - 48).toNat = k.toNat by omega]
  · have : k = 0 := by omega
    subst this; simp
theorem row_inv : ∀ (l p : List Int), cellsB (p ++ l) → (p ++ l).length ≤ 9 → ∀ (out : List Int) (k : Int), (∃ q, out.foldl rstep (some []) = some q ∧ 0 ≤ k ∧ p = q ++ List.replicate k.toNat 46) → ∃ q, (l.foldl rowStep (out, k)).1.foldl rstep (some []) = some q ∧ 0 ≤ (l.foldl rowStep (out, k)).2 ∧ p ++ l = q ++ List.replicate (l.foldl rowStep (out, k)).2.toNat 46 := by
  intro l
  induction l with
  | nil => intro p _ _ out k h; simpa using h
  | cons c l ih =>
    intro p hc hl out k ⟨q, h1, h2, h3⟩
    have hk : k < 10 := by
      have := congrArg List.length h3
      simp only [List.length_append, List.length_replicate, List.length_cons] at this hl
      omega
    have hcc := hc c (by simp)
    rw [List.foldl_cons, show p ++ c :: l = (p ++ [c]) ++ l by simp]
    rw [show p ++ c :: l = (p ++ [c]) ++ l by simp] at hc hl
    by_cases h46 : c = 46
    · rw [show rowStep (out, k) c = (out, k + 1) by unfold rowStep; rw [if_pos h46]]
      refine ih (p ++ [c]) hc hl out (k + 1) ⟨q, h1, by omega, ?_⟩
      rw [h3, h46, show (k + 1).toNat = k.toNat + 1 by omega, List.replicate_succ', List.append_assoc]
    · rw [show rowStep (out, k) c = (out ++ gapL k ++ [c], 0) by unfold rowStep; rw [if_neg h46]]
      have hs : 0 ≤ spSide c := (cell_two hcc.1).resolve_left h46
      have hp := piece_at hcc.2 hs
      refine ih (p ++ [c]) hc hl _ 0 ⟨p ++ [c], ?_, by decide, by simp⟩
      rw [List.foldl_append, List.foldl_append, h1, gap_read h2 hk, ← h3]
      show rstep (some p) c = _
      unfold rstep
      simp only
      rw [hp.1, if_neg hp.2.1, if_pos hs]
theorem row_read {l : List Int} (h : cellsB l) (hl : l.length ≤ 9) : rankGo (rowT l) = some l := by
  obtain ⟨q, h1, h2, h3⟩ := row_inv l [] (by simpa using h) (by simpa using hl) [] 0 ⟨[], rfl, by decide, rfl⟩
  rw [List.nil_append] at h3
  unfold rowT rowEnd rankGo
  generalize l.foldl rowStep ([], 0) = st at h1 h2 h3
  have hk : st.2 < 10 := by
    have := congrArg List.length h3
    rw [List.length_append, List.length_replicate] at this
    omega
  rw [List.foldl_append, h1, gap_read h2 hk, ← h3]
def cntStep (n c : Int) : Int := if c = 47 then n else if 49 ≤ c ∧ c ≤ 57 then n + (c - 48) else n + 1
theorem rstep_byte : ∀ n : Nat, n < 256 → (49 ≤ letter4 n ∧ letter4 n ≤ 57) ∨ 0 ≤ spSide (letter4 n) → ((49 ≤ letter4 n ∧ letter4 n ≤ 57) ↔ (49 ≤ (n : Int) ∧ (n : Int) ≤ 57)) ∧ ((49 ≤ letter4 n ∧ letter4 n ≤ 57) → letter4 n = n) ∧ (n : Int) ≠ 47 ∧ (n : Int) ≠ 32 := by decide +kernel
theorem rank_cnt : ∀ (t a b : List Int), (∀ x ∈ t, 0 ≤ x ∧ x < 256) → t.foldl rstep (some a) = some b → (∀ x ∈ t, x ≠ 47 ∧ x ≠ 32) ∧ a.length + t.length ≤ b.length ∧ ∀ n, t.foldl cntStep n = n + ((b.length : Int) - (a.length : Int)) := by
  intro t
  induction t with
  | nil => intro a b _ h; cases h; exact ⟨by simp, by simp, fun n => by simp⟩
  | cons x t ih =>
    intro a b hb h
    rw [List.foldl_cons] at h
    have hx := hb x (by simp)
    have htab := rstep_byte x.toNat (by omega)
    rw [show ((x.toNat : Nat) : Int) = x by omega] at htab
    by_cases hd : 49 ≤ letter4 x ∧ letter4 x ≤ 57
    · have e : rstep (some a) x = some (a ++ List.replicate (letter4 x - 48).toNat 46) := by unfold rstep; simp only; rw [if_pos hd]
      rw [e] at h
      obtain ⟨i1, i2, i3⟩ := ih _ _ (fun y hy => hb y (by simp [hy])) h
      obtain ⟨t1, t2, t3, t4⟩ := htab (.inl hd)
      rw [List.length_append, List.length_replicate, t2 hd] at i2 i3
      rw [t2 hd] at hd
      refine ⟨fun y hy => ?_, ?_, fun n => ?_⟩
      · rcases List.mem_cons.1 hy with rfl | hy
        · exact ⟨t3, t4⟩
        · exact i1 y hy
      · rw [List.length_cons]; omega
      · rw [List.foldl_cons, i3]; unfold cntStep; rw [if_neg t3, if_pos hd]; omega
    · by_cases hs : 0 ≤ spSide (letter4 x)
      · have e : rstep (some a) x = some (a ++ [letter4 x]) := by unfold rstep; simp only; rw [if_neg hd, if_pos hs]
        rw [e] at h
        obtain ⟨i1, i2, i3⟩ := ih _ _ (fun y hy => hb y (by simp [hy])) h
        obtain ⟨t1, t2, t3, t4⟩ := htab (.inr hs)
        rw [List.length_append, List.length_singleton] at i2 i3
        refine ⟨fun y hy => ?_, ?_, fun n => ?_⟩
        · rcases List.mem_cons.1 hy with rfl | hy
          · exact ⟨t3, t4⟩
          · exact i1 y hy
        · rw [List.length_cons]; omega
        · rw [List.foldl_cons, i3]; unfold cntStep; rw [if_neg t3, if_neg (fun e => hd (t1.2 e))]; omega
      · have e : rstep (some a) x = none := by unfold rstep; simp only; rw [if_neg hd, if_neg hs]
        rw [e, rstep_none] at h; cases h
theorem gap_bd (k : Int) : ∀ c ∈ gapL k, 0 ≤ c ∧ c < 256 := by
  unfold gapL
  split
  · intro c hc; have := dig_bd k c hc; omega
  · simp
theorem row_bd {l : List Int} (h : cellsB l) : ∀ c ∈ rowT l, 0 ≤ c ∧ c < 256 := by
  have key : ∀ (l : List Int), cellsB l → ∀ st : List Int × Int, (∀ c ∈ st.1, 0 ≤ c ∧ c < 256) → ∀ c ∈ (l.foldl rowStep st).1, 0 ≤ c ∧ c < 256 := by
    intro l
    induction l with
    | nil => intro _ st h; exact h
    | cons x l ih =>
      intro hc st h
      rw [List.foldl_cons]
      refine ih (fun y hy => hc y (by simp [hy])) _ ?_
      unfold rowStep
      split
      · exact h
      · intro c hc2
        rcases List.mem_append.1 hc2 with hc2 | hc2
        · rcases List.mem_append.1 hc2 with hc2 | hc2
          · exact h c hc2
          · exact gap_bd _ c hc2
        · rw [List.mem_singleton.1 hc2]; exact (hc x (by simp)).2
  intro c hc
  unfold rowT rowEnd at hc
  rcases List.mem_append.1 hc with hc | hc
  · exact key l h ([], 0) (by simp) c hc
  · exact gap_bd _ c hc

def joinI (s : Int) : List (List Int) → List Int
  | [] => []
  | [x] => x
  | x :: y :: l => x ++ s :: joinI s (y :: l)
theorem joinI_cons (s : Int) (x : List Int) {L : List (List Int)} (h : L ≠ []) : joinI s (x :: L) = x ++ s :: joinI s L := by
  cases L with
  | nil => exact absurd rfl h
  | cons y l => rfl
theorem joinI_snoc (s : Int) (x : List Int) : ∀ {L : List (List Int)}, L ≠ [] → joinI s (L ++ [x]) = joinI s L ++ s :: x := by
  intro L
  induction L with
  | nil => intro h; exact absurd rfl h
  | cons y L ih =>
    intro _
    by_cases hL : L = []
    · subst hL; rfl
    · rw [List.cons_append, joinI_cons s y (by simp), ih hL, joinI_cons s y hL]; simp
theorem cut_skip (c : Int) : ∀ (x l : List Int), (∀ y ∈ x, y ≠ c) → cutAt c (x ++ c :: l) = x :: cutAt c l := by
  intro x l
  induction x with
  | nil => intro _; show cutAt c (c :: l) = _; rw [cutAt, if_pos rfl]
  | cons y x ih =>
    intro h
    show cutAt c (y :: (x ++ c :: l)) = _
    rw [cutAt, if_neg (h y (by simp)), ih fun z hz => h z (by simp [hz])]; rfl
theorem cut_only (c : Int) : ∀ (x : List Int), (∀ y ∈ x, y ≠ c) → cutAt c x = [x] := by
  intro x
  induction x with
  | nil => intro _; rfl
  | cons y x ih =>
    intro h
    rw [cutAt, if_neg (h y (by simp)), ih fun z hz => h z (by simp [hz])]; rfl
theorem cut_join (c : Int) : ∀ {L : List (List Int)}, L ≠ [] → (∀ x ∈ L, ∀ y ∈ x, y ≠ c) → cutAt c (joinI c L) = L := by
  intro L
  induction L with
  | nil => intro h; exact absurd rfl h
  | cons x L ih =>
    intro _ h
    by_cases hL : L = []
    · subst hL; exact cut_only c x (h x (by simp))
    · rw [joinI_cons c x hL, cut_skip c x _ (h x (by simp)), ih hL fun z hz => h z (by simp [hz])]
theorem joinI_bd (s : Int) (hs : 0 ≤ s ∧ s < 256) : ∀ {L : List (List Int)}, (∀ x ∈ L, ∀ c ∈ x, 0 ≤ c ∧ c < 256) → ∀ c ∈ joinI s L, 0 ≤ c ∧ c < 256 := by
  intro L
  induction L with
  | nil => intro _ c hc; cases hc
  | cons x L ih =>
    intro h c hc
    by_cases hL : L = []
    · subst hL; exact h x (by simp) c hc
    · rw [joinI_cons s x hL] at hc
      rcases List.mem_append.1 hc with hc | hc
      · exact h x (by simp) c hc
      · rcases List.mem_cons.1 hc with rfl | hc
        · exact hs
        · exact ih (fun z hz => h z (by simp [hz])) c hc
theorem join_cut (c : Int) : ∀ (l : List Int), joinI c (cutAt c l) = l := by
  intro l
  induction l with
  | nil => rfl
  | cons x l ih =>
    rw [cutAt]
    split
    · rename_i h; subst h
      rw [joinI_cons _ _ (cutAt_ne _ _), ih]; rfl
    · cases hc : cutAt c l with
      | nil => exact absurd hc (cutAt_ne _ _)
      | cons y L =>
        rw [hc] at ih
        by_cases hL : L = []
        · subst hL; show joinI c [[x] ++ y] = _; rw [← ih]; rfl
        · show joinI c (([x] ++ y) :: L) = _
          rw [joinI_cons _ _ hL, ← ih, joinI_cons _ _ hL]; rfl

def rk (b : List Int) (r : Nat) : List Int := rowT (part b (9 * r) (9 * r + 9))
def rksL (b : List Int) : List (List Int) := ((List.range 10).map (rk b)).reverse
def boardT (b : List Int) : List Int := joinI 47 (rksL b)
theorem part_cells {b : List Int} (h : cellsB b) (i j : Nat) : cellsB (part b i j) := fun c hc => h c (List.mem_of_mem_drop (List.mem_of_mem_take hc))
theorem part_len {b : List Int} (hb : b.length = 90) {r : Nat} (hr : r < 10) : (part b (9 * r) (9 * r + 9)).length = 9 := by
  unfold part; rw [List.length_take, List.length_drop]; omega
theorem rk_read {b : List Int} (h : cellsB b) (hb : b.length = 90) {r : Nat} (hr : r < 10) : rankGo (rk b r) = some (part b (9 * r) (9 * r + 9)) := row_read (part_cells h _ _) (by rw [part_len hb hr]; exact Nat.le_refl _)
theorem rk_bd {b : List Int} (h : cellsB b) (r : Nat) : ∀ c ∈ rk b r, 0 ≤ c ∧ c < 256 := row_bd (part_cells h _ _)
theorem rk_cnt {b : List Int} (h : cellsB b) (hb : b.length = 90) {r : Nat} (hr : r < 10) : (∀ x ∈ rk b r, x ≠ 47 ∧ x ≠ 32) ∧ (rk b r).length ≤ 9 ∧ ∀ n, (rk b r).foldl cntStep n = n + 9 := by
  obtain ⟨h1, h2, h3⟩ := rank_cnt _ _ _ (rk_bd h r) (rk_read h hb hr)
  rw [part_len hb hr] at h2 h3
  exact ⟨h1, by simpa using h2, fun n => by rw [h3]; simp⟩
theorem rks_mem {b x : List Int} (h : x ∈ rksL b) : ∃ r, r < 10 ∧ x = rk b r := by
  obtain ⟨r, hr, rfl⟩ := List.mem_map.1 (List.mem_reverse.1 h)
  exact ⟨r, List.mem_range.1 hr, rfl⟩
theorem rks_ne (b : List Int) : rksL b ≠ [] := by simp [rksL]
theorem board_cut {b : List Int} (h : cellsB b) (hb : b.length = 90) : cutAt 47 (boardT b) = rksL b := cut_join 47 (rks_ne b) fun x hx y hy => by
  obtain ⟨r, hr, rfl⟩ := rks_mem hx
  exact ((rk_cnt h hb hr).1 y hy).1
theorem board_bd {b : List Int} (h : cellsB b) : ∀ c ∈ boardT b, 0 ≤ c ∧ c < 256 := joinI_bd 47 (by decide) fun x hx => by
  obtain ⟨r, _, rfl⟩ := rks_mem hx
  exact rk_bd h r
theorem joinI_prop {P : Int → Prop} (s : Int) (hs : P s) : ∀ {L : List (List Int)}, (∀ x ∈ L, ∀ c ∈ x, P c) → ∀ c ∈ joinI s L, P c := by
  intro L
  induction L with
  | nil => intro _ c hc; cases hc
  | cons x L ih =>
    intro h c hc
    by_cases hL : L = []
    · subst hL; exact h x (by simp) c hc
    · rw [joinI_cons s x hL] at hc
      rcases List.mem_append.1 hc with hc | hc
      · exact h x (by simp) c hc
      · rcases List.mem_cons.1 hc with rfl | hc
        · exact hs
        · exact ih (fun z hz => h z (by simp [hz])) c hc
theorem board_32 {b : List Int} (h : cellsB b) (hb : b.length = 90) : ∀ c ∈ boardT b, c ≠ 32 := joinI_prop 47 (by decide) fun x hx y hy => by
  obtain ⟨r, hr, rfl⟩ := rks_mem hx
  exact ((rk_cnt h hb hr).1 y hy).2
theorem cells_take {b : List Int} (h : cellsB b) (hb : b.length = 90) : ∀ k, k ≤ 10 → ((List.range k).map (rk b)).foldl cstep4 (some []) = some (b.take (9 * k)) := by
  intro k
  induction k with
  | zero => intro _; rfl
  | succ k ih =>
    intro hk
    rw [List.range_succ, List.map_append, List.foldl_append, ih (by omega)]
    show cstep4 (some _) (rk b k) = _
    unfold cstep4 rankR
    rw [rk_read h hb (by omega)]
    simp only
    rw [if_pos (part_len hb (by omega))]
    simp only
    congr 1
    unfold part
    rw [show 9 * k + 9 - 9 * k = 9 by omega, show 9 * (k + 1) = 9 * k + 9 by omega, List.take_add]
theorem board_read {b : List Int} (h : cellsB b) (hb : b.length = 90) : cellsGo (boardT b) = some b := by
  unfold cellsGo
  rw [board_cut h hb, if_pos (by simp [rksL])]
  unfold rksL
  rw [List.reverse_reverse, cells_take h hb 10 (Nat.le_refl _), List.take_of_length_le (by omega)]
theorem joinI_len (s : Int) (n : Nat) : ∀ {L : List (List Int)}, (∀ x ∈ L, x.length ≤ n) → (joinI s L).length ≤ (n + 1) * L.length := by
  intro L
  induction L with
  | nil => intro _; simp [joinI]
  | cons x L ih =>
    intro h
    have h1 := h x (by simp)
    have h2 := ih fun z hz => h z (by simp [hz])
    by_cases hL : L = []
    · subst hL; simp [joinI]; omega
    · rw [joinI_cons s x hL]
      simp only [List.length_append, List.length_cons, Nat.mul_succ]
      omega
theorem board_len {b : List Int} (h : cellsB b) (hb : b.length = 90) : (boardT b).length ≤ 100 := by
  have := joinI_len 47 9 (L := rksL b) fun x hx => by
    obtain ⟨r, hr, rfl⟩ := rks_mem hx
    exact (rk_cnt h hb hr).2.1
  rw [show (rksL b).length = 10 by simp [rksL]] at this
  exact this
def sdL (sd : Int) : List Int := if sd = 1 then [98] else [119]
def fldsL (b : List Int) (sd k f : Int) : List (List Int) := [boardT b, sdL sd, [45], [45], digL k, digL f]
def printT (b : List Int) (sd k f : Int) : List Int := joinI 32 (fldsL b sd k f)
structure PrOk (b : List Int) (sd k f : Int) : Prop where
  c : cellsB b
  l : b.length = 90
  s : sd = 0 ∨ sd = 1
  k : 0 ≤ k ∧ k ≤ 120
  f : 1 ≤ f ∧ f ≤ 9999
theorem flds_32 {b : List Int} {sd k f : Int} (h : PrOk b sd k f) : ∀ x ∈ fldsL b sd k f, ∀ y ∈ x, y ≠ 32 ∧ 0 ≤ y ∧ y < 256 := by
  intro x hx y hy
  simp only [fldsL, List.mem_cons, List.not_mem_nil, or_false] at hx
  rcases hx with rfl | rfl | rfl | rfl | rfl | rfl
  · exact ⟨board_32 h.c h.l y hy, board_bd h.c y hy⟩
  · unfold sdL at hy; split at hy <;> (rw [List.mem_singleton.1 hy]; decide)
  · rw [List.mem_singleton.1 hy]; decide
  · rw [List.mem_singleton.1 hy]; decide
  · have := dig_bd _ y hy; omega
  · have := dig_bd _ y hy; omega
theorem print_cut {b : List Int} {sd k f : Int} (h : PrOk b sd k f) : cutAt 32 (printT b sd k f) = fldsL b sd k f := cut_join 32 (by simp [fldsL]) fun x hx y hy => (flds_32 h x hx y hy).1
theorem print_bd {b : List Int} {sd k f : Int} (h : PrOk b sd k f) : ∀ c ∈ printT b sd k f, 0 ≤ c ∧ c < 256 := joinI_bd 32 (by decide) fun x hx y hy => (flds_32 h x hx y hy).2
theorem side_read {sd : Int} (h : sd = 0 ∨ sd = 1) : sideGo (sdL sd) = some sd := by rcases h with rfl | rfl <;> decide
theorem print_form {b : List Int} {sd k f : Int} (h : PrOk b sd k f) : formGo (cutAt 32 (printT b sd k f)) = some (b, sd, k, f) := by
  rw [print_cut h]
  unfold fldsL formGo
  simp only
  rw [board_read h.c h.l, side_read h.s, (dig_num h.k.1 (by have := h.k.2; omega)).1, (dig_num (by have := h.f.1; omega) h.f.2).1]
  simp
theorem printT_len {b : List Int} {sd k f : Int} (h : PrOk b sd k f) : (printT b sd k f).length ≤ 606 := by
  refine Nat.le_trans (joinI_len 32 100 (L := fldsL b sd k f) ?_) (by simp [fldsL])
  intro x hx
  simp only [fldsL, List.mem_cons, List.not_mem_nil, or_false] at hx
  rcases hx with rfl | rfl | rfl | rfl | rfl | rfl
  · exact board_len h.c h.l
  · unfold sdL; split <;> decide
  · decide
  · decide
  · have := (dig_num h.k.1 (by have := h.k.2; omega)).2; omega
  · have := (dig_num (n := f) (by have := h.f.1; omega) h.f.2).2; omega
def prB (p : Pos4) : ByteArray := bytesOf (printT (bytesL p.1) p.2.1 p.2.2.1 p.2.2.2)
def ck (p : Pos4) : Int := rCheck p.1 p.2.1 p.2.2.1 p.2.2.2
def printP (p : Pos4) : ByteArray × Int := if ck p = 0 then (prB p, 0) else (ByteArray.empty, ck p)
theorem pr_ok {p : Pos4} (h : ck p = 0) : PrOk (bytesL p.1) p.2.1 p.2.2.1 p.2.2.2 := by
  obtain ⟨h1, h2, h3, h4, h5⟩ := rArg_f (rCheck_arg h).1
  obtain ⟨i1, i2⟩ := is_iff.1 h1
  refine ⟨fun c hc => ⟨?_, bytesL_bound _ c hc⟩, by rw [bL_len]; exact i1, h2, h3, ⟨h4, h5⟩⟩
  obtain ⟨n, hn, rfl⟩ := List.getElem_of_mem hc
  have hn' := hn
  rw [bL_len, i1] at hn'
  have := i2 n hn'
  rw [← bL_at, List.getD_eq_getElem?_getD, List.getElem?_eq_getElem hn] at this
  exact this
theorem prB_list {p : Pos4} (h : ck p = 0) : bytesL (prB p) = printT (bytesL p.1) p.2.1 p.2.2.1 p.2.2.2 := bytesL_of (print_bd (pr_ok h))
theorem prB_size {p : Pos4} (h : ck p = 0) : (prB p).size ≤ 606 := by
  unfold prB; rw [size_bytesOf]; exact printT_len (pr_ok h)
theorem form_pr {p : Pos4} (h : ck p = 0) : form4 (prB p) = some (bytesL p.1, p.2) := by
  unfold form4
  have := prB_size h
  rw [if_neg (by omega), prB_list h, print_form (pr_ok h)]
theorem back_pos {p : Pos4} (h : ck p = 0) : pos4 (prB p) = p ∧ err4 (prB p) = 0 := by
  unfold pos4 err4
  rw [form_pr h]
  simp only
  rw [bytesOf_bytesL]
  exact ⟨if_pos h, h⟩
theorem back_parse {p : Pos4} (h : ck p = 0) : parseP (prB p) = (p, 0) := by
  rw [parse_same (by have := prB_size h; omega), (back_pos h).1, (back_pos h).2]
theorem read_two (s : ByteArray) : (err4 s = 0 ∧ ck (pos4 s) = 0) ∨ (err4 s ≠ 0 ∧ pos4 s = (ByteArray.empty, 0, 0, 0)) := by
  unfold err4 pos4
  cases form4 s with
  | none => exact .inr ⟨by decide, rfl⟩
  | some x =>
    obtain ⟨b, sd, k, f⟩ := x
    simp only
    by_cases hc : rCheck (bytesOf b) sd k f = 0
    · rw [if_pos hc]; exact .inl ⟨hc, hc⟩
    · rw [if_neg hc]; exact .inr ⟨hc, rfl⟩
end Go.X

namespace Go.X
open Go

def tabL (c : Int) : Int := if c = 9 then 32 else c
def fullB (p : List Int) : Bool := !p.isEmpty
def wordsL (b : List Int) : List (List Int) := (cutAt 32 (b.map tabL)).filter fullB
def Blank (c : Int) : Prop := c = 32 ∨ c = 9
def Word (w : List Int) : Prop := w ≠ [] ∧ ∀ c ∈ w, ¬ Blank c
theorem tab_blank {c : Int} (h : Blank c) : tabL c = 32 := by rcases h with rfl | rfl <;> rfl
theorem tab_other {c : Int} (h : ¬ Blank c) : tabL c = c ∧ c ≠ 32 := by
  unfold Blank at h
  unfold tabL
  refine ⟨if_neg fun e => h (.inr e), fun e => h (.inl e)⟩
theorem word_map {w : List Int} (h : ∀ c ∈ w, ¬ Blank c) : w.map tabL = w := by
  conv => rhs; rw [← List.map_id w]
  exact List.map_congr_left fun c hc => (tab_other (h c hc)).1
theorem words_nil : wordsL [] = [] := rfl
theorem words_blank {c : Int} (h : Blank c) (l : List Int) : wordsL (c :: l) = wordsL l := by
  unfold wordsL
  rw [List.map_cons, tab_blank h, cutAt, if_pos rfl]; rfl
theorem words_word {w : List Int} (hw : Word w) {c : Int} (h : Blank c) (l : List Int) : wordsL (w ++ c :: l) = w :: wordsL l := by
  unfold wordsL
  rw [List.map_append, List.map_cons, tab_blank h, word_map hw.2, cut_skip 32 w _ fun y hy => (tab_other (hw.2 y hy)).2]
  have : fullB w = true := by
    unfold fullB
    cases w with
    | nil => exact absurd rfl hw.1
    | cons x w => rfl
  rw [List.filter_cons, if_pos this]
theorem words_last {w : List Int} (hw : Word w) : wordsL w = [w] := by
  unfold wordsL
  rw [word_map hw.2, cut_only 32 w fun y hy => (tab_other (hw.2 y hy)).2]
  have : fullB w = true := by
    unfold fullB
    cases w with
    | nil => exact absurd rfl hw.1
    | cons x w => rfl
  rw [List.filter_cons, if_pos this]; rfl
theorem words_mem {b w : List Int} (h : w ∈ wordsL b) : Word w ∧ ∀ c ∈ w, c ∈ b := by
  unfold wordsL at h
  obtain ⟨h1, h2⟩ := List.mem_filter.1 h
  have hin : ∀ c ∈ w, ¬ Blank c ∧ c ∈ b := by
    intro c hc
    obtain ⟨h3, h4⟩ := cutAt_mem h1 c hc
    obtain ⟨d, hd, hdc⟩ := List.mem_map.1 h3
    by_cases hb : Blank d
    · rw [tab_blank hb] at hdc; exact absurd hdc.symm h4
    · rw [(tab_other hb).1] at hdc
      subst hdc; exact ⟨hb, hd⟩
  refine ⟨⟨fun e => ?_, fun c hc => (hin c hc).1⟩, fun c hc => (hin c hc).2⟩
  subst e; exact absurd h2 (by decide)
def behindL : List (List Int) → List Int
  | [] => []
  | w :: L => w ++ 32 :: behindL L
def aheadL : List (List Int) → List Int
  | [] => []
  | w :: L => 9 :: 32 :: (w ++ aheadL L)
theorem words_behind : ∀ {L : List (List Int)}, (∀ w ∈ L, Word w) → wordsL (behindL L) = L := by
  intro L
  induction L with
  | nil => intro _; rfl
  | cons w L ih =>
    intro h
    rw [behindL, words_word (h w (by simp)) (.inl rfl), ih fun x hx => h x (by simp [hx])]
theorem words_ahead : ∀ {L : List (List Int)}, (∀ w ∈ L, Word w) → wordsL (aheadL L ++ [32]) = L := by
  intro L
  induction L with
  | nil => intro _; exact words_blank (.inl rfl) []
  | cons w L ih =>
    intro h
    show wordsL (9 :: 32 :: ((w ++ aheadL L) ++ [32])) = _
    rw [words_blank (.inr rfl), words_blank (.inl rfl)]
    cases L with
    | nil => show wordsL ((w ++ []) ++ 32 :: []) = _; rw [List.append_nil, words_word (h w (by simp)) (.inl rfl)]; rfl
    | cons v L =>
      have e : (w ++ aheadL (v :: L)) ++ [32] = w ++ 9 :: (32 :: (v ++ aheadL L) ++ [32]) := by simp [aheadL]
      have ih' := ih fun x hx => h x (by simp [hx])
      have e2 : aheadL (v :: L) ++ [32] = 9 :: (32 :: (v ++ aheadL L) ++ [32]) := by simp [aheadL]
      rw [e2, words_blank (.inr rfl)] at ih'
      rw [e, words_word (h w (by simp)) (.inr rfl), ih']
theorem words_join {L : List (List Int)} (h : ∀ w ∈ L, Word w) : wordsL (joinI 32 L) = L := by
  induction L with
  | nil => rfl
  | cons w L ih =>
    by_cases hL : L = []
    · subst hL; exact words_last (h w (by simp))
    · rw [joinI_cons 32 w hL, words_word (h w (by simp)) (.inl rfl), ih fun x hx => h x (by simp [hx])]
theorem words_len (b : List Int) : (wordsL b).length ≤ b.length + 1 := by
  unfold wordsL
  refine Nat.le_trans (List.length_filter_le _ _) ?_
  have := cutAt_len 32 (b.map tabL)
  rw [List.length_map] at this; exact this
theorem preC_sum (p : List Int) (L : List (List Int)) : ((preC p L).map (·.length)).sum = p.length + (L.map (·.length)).sum := by
  cases L with
  | nil => simp [preC]
  | cons x L => simp [preC, List.length_append]; omega
theorem cut_sum (c : Int) (l : List Int) : ((cutAt c l).map (·.length)).sum ≤ l.length := by
  induction l with
  | nil => simp [cutAt]
  | cons x l ih =>
    unfold cutAt
    split
    · simp only [List.map_cons, List.sum_cons, List.length_nil, List.length_cons]; omega
    · rw [preC_sum]; simp only [List.length_cons, List.length_nil]; omega
theorem filter_sum (p : List Int → Bool) (L : List (List Int)) : ((L.filter p).map (·.length)).sum ≤ (L.map (·.length)).sum := by
  induction L with
  | nil => simp
  | cons x L ih =>
    rw [List.filter_cons]
    split
    · simp only [List.map_cons, List.sum_cons]; omega
    · simp only [List.map_cons, List.sum_cons]; omega
theorem words_sum (b : List Int) : ((wordsL b).map (·.length)).sum ≤ b.length := by
  refine Nat.le_trans (filter_sum _ _) ?_
  have := cut_sum 32 (b.map tabL)
  rw [List.length_map] at this; exact this
theorem behind_len (L : List (List Int)) : (behindL L).length = (L.map (·.length)).sum + L.length := by
  induction L with
  | nil => rfl
  | cons w L ih => simp only [behindL, List.length_append, List.length_cons, List.map_cons, List.sum_cons, ih]; omega
theorem ahead_len (L : List (List Int)) : (aheadL L).length = (L.map (·.length)).sum + 2 * L.length := by
  induction L with
  | nil => rfl
  | cons w L ih => simp only [aheadL, List.length_append, List.length_cons, List.map_cons, List.sum_cons, ih]; omega
end Go.X

namespace Go.X
open Go

def bdB (p : Pos4) : ByteArray := bytesOf (boardT (bytesL p.1))
end Go.X

namespace Go.X
open Go
structure DG (k : Nat) (n : Int) : Prop where
  lo : 0 ≤ n
  hi : n < 10 ^ k
  pos : 0 < k ∧ n ≤ 9999
theorem DG.of {n : Int} (h0 : 0 ≤ n) (h : n ≤ 9999) : DG 4 n := ⟨h0, by omega, by decide, h⟩
theorem dig_len {n : Int} (h0 : 0 ≤ n) (h : n ≤ 9999) : (digL n).length ≤ 4 := (dig_num h0 h).2
theorem dig_byte {n : Int} (h : 0 ≤ n) (h9 : n ≤ 9999) : IntKind.u8.wrap (IntKind.i64.wrap (48 + Int.tmod n 10)) = 48 + n % 10 := by
  rw [Int.tmod_eq_emod_of_nonneg h, wrap64 (by omega) (by omega), wrapB (by omega) (by omega)]
theorem DG.next {k : Nat} {n : Int} (h : DG (k + 1) n) (h10 : 10 ≤ n) : DG k (Int.tdiv n 10) := by
  have hp : (10 : Int) ^ (k + 1) = 10 * 10 ^ k := by rw [Int.pow_succ, Int.mul_comm]
  have h1 := h.hi
  have h9 := h.pos.2
  rw [hp] at h1
  refine ⟨?_, ?_, ?_, ?_⟩
  · rw [Int.tdiv_eq_ediv_of_nonneg h.lo]; omega
  · rw [Int.tdiv_eq_ediv_of_nonneg h.lo]; omega
  · rcases Nat.eq_zero_or_pos k with rfl | hk
    · simp at h1; omega
    · exact hk
  · rw [Int.tdiv_eq_ediv_of_nonneg h.lo]; omega
theorem dig_step {n : Int} (h : 10 ≤ n) : bytesOf (digL (Int.tdiv n 10)) ++ bytesOf [48 + n % 10] = bytesOf (digL n) := by
  rw [Int.tdiv_eq_ediv_of_nonneg (by omega), ← bytesOf_app, ← dig_more h]
theorem dig_all (n : Int) : ∀ c ∈ digL n, 0 ≤ c ∧ c < 256 := fun c hc => by have := dig_bd n c hc; omega

structure RW (b : ByteArray) (r : Int) : Prop where
  sz : b.size = 90
  lo : 0 ≤ r
  hi : r ≤ 9
def rst (b : List Int) (r i : Nat) : List Int × Int := (part b (9 * r) (9 * r + i)).foldl rowStep ([], 0)
structure RInv (b : List Int) (r i : Nat) : Prop where
  hi : i ≤ 9
  k0 : 0 ≤ (rst b r i).2
  k1 : (rst b r i).2 ≤ i
  len : (rst b r i).1.length ≤ 2 * i
theorem rst_next {b : List Int} (hb : b.length = 90) {r i : Nat} (hr : r ≤ 9) (hi : i < 9) : rst b r (i + 1) = rowStep (rst b r i) (b.getD (9 * r + i) 0) := by
  unfold rst
  rw [show 9 * r + (i + 1) = (9 * r + i) + 1 by omega, part_next (by omega) (by omega), List.foldl_append]; rfl
theorem gap_len {k : Int} (h0 : 0 ≤ k) (h : k ≤ 9) : (gapL k).length ≤ 1 := by
  unfold gapL
  split
  · rw [dig_one h0 (by omega)]; exact Nat.le_refl _
  · decide
theorem RInv.start (b : List Int) (r : Nat) : RInv b r 0 := by
  have : rst b r 0 = ([], 0) := by unfold rst; rw [show 9 * r + 0 = 9 * r from rfl, part_self]; rfl
  exact ⟨by decide, by rw [this]; decide, by rw [this]; decide, by rw [this]; decide⟩
theorem RInv.next {b : List Int} (hb : b.length = 90) {r i : Nat} (hr : r ≤ 9) (hi : i < 9) (h : RInv b r i) : RInv b r (i + 1) := by
  have h1 := h.k0; have h2 := h.k1; have h3 := h.len
  have hg := gap_len h1 (by omega)
  refine ⟨hi, ?_, ?_, ?_⟩ <;> rw [rst_next hb hr hi] <;> unfold rowStep <;> split
  · show (0 : Int) ≤ (rst b r i).2 + 1; omega
  · exact Int.le_refl _
  · show (rst b r i).2 + 1 ≤ _; omega
  · show (0 : Int) ≤ _; omega
  · show (rst b r i).1.length ≤ _; omega
  · show (_ ++ _ ++ [_] : List Int).length ≤ _; simp only [List.length_append, List.length_singleton]; omega
theorem step_dot {st : List Int × Int} {c : Int} (h : c = 46) : rowStep st c = (st.1, st.2 + 1) := if_pos h
theorem step_gap {st : List Int × Int} {c : Int} (h : c ≠ 46) (hk : 0 < st.2) : rowStep st c = (st.1 ++ digL st.2 ++ [c], 0) := by unfold rowStep gapL; rw [if_neg h, if_pos hk]
theorem step_no {st : List Int × Int} {c : Int} (h : c ≠ 46) (hk : ¬ 0 < st.2) : rowStep st c = (st.1 ++ [c], 0) := by unfold rowStep gapL; rw [if_neg h, if_neg hk, List.append_nil]
theorem rk_end (b : List Int) (r : Nat) : rk b r = rowEnd (rst b r 9) := rfl
theorem end_gap {st : List Int × Int} (hk : 0 < st.2) : rowEnd st = st.1 ++ digL st.2 := by unfold rowEnd gapL; rw [if_pos hk]
theorem end_no {st : List Int × Int} (hk : ¬ 0 < st.2) : rowEnd st = st.1 := by unfold rowEnd gapL; rw [if_neg hk, List.append_nil]

theorem rks_at {b : List Int} {i : Nat} (hi : i < 10) : (rksL b)[i]? = some (rk b (9 - i)) := by
  unfold rksL
  rw [List.getElem?_reverse (by simpa using hi), List.getElem?_map, List.length_map, List.length_range, List.getElem?_range (by omega)]; rfl
def rowsT (b : List Int) (n : Nat) : List Int := joinI 47 ((rksL b).take n)
theorem rows_one (b : List Int) : rowsT b 1 = rk b 9 := by
  unfold rowsT
  rw [List.take_add_one, rks_at (by decide)]; rfl
theorem rows_next {b : List Int} {n : Nat} (h1 : 1 ≤ n) (h : n < 10) : rowsT b (n + 1) = rowsT b n ++ [47] ++ rk b (9 - n) := by
  unfold rowsT
  rw [List.take_add_one, rks_at h]
  simp only [Option.toList_some]
  rw [joinI_snoc, List.append_assoc]; rfl
  intro h2
  have h3 := congrArg List.length h2
  rw [List.length_take, show (rksL b).length = 10 by simp [rksL]] at h3
  simp only [List.length_nil] at h3
  omega
theorem rows_all (b : List Int) : rowsT b 10 = boardT b := by
  unfold rowsT boardT
  rw [List.take_of_length_le (by simp [rksL])]
theorem rows_len {b : List Int} (h : cellsB b) (hb : b.length = 90) (n : Nat) : (rowsT b n).length ≤ 100 := by
  have := joinI_len 47 9 (L := (rksL b).take n) fun x hx => by
    obtain ⟨r, hr, rfl⟩ := rks_mem (List.mem_of_mem_take hx)
    exact (rk_cnt h hb hr).2.1
  rw [List.length_take, show (rksL b).length = 10 by simp [rksL]] at this
  unfold rowsT
  have h2 : min n 10 ≤ 10 := Nat.min_le_right _ _
  omega
theorem rk_len {b : List Int} (h : cellsB b) (hb : b.length = 90) {r : Nat} (hr : r < 10) : (rk b r).length ≤ 9 := (rk_cnt h hb hr).2.1
theorem printT_eq (b : List Int) (sd k f : Int) : printT b sd k f = boardT b ++ ([32] ++ sdL sd ++ [32, 45, 32, 45, 32]) ++ digL k ++ [32] ++ digL f := by
  unfold printT fldsL
  simp [joinI]
theorem side_t {sd : Int} (h : (sd == 1) = true) : bytesOf ([32] ++ sdL sd ++ [32, 45, 32, 45, 32]) = ⟨#[32, 98, 32, 45, 32, 45, 32]⟩ := by
  rw [beqT h]; rfl
theorem side_f {sd : Int} (h : (sd == 1) = false) : bytesOf ([32] ++ sdL sd ++ [32, 45, 32, 45, 32]) = ⟨#[32, 119, 32, 45, 32, 45, 32]⟩ := by
  unfold sdL
  rw [if_neg (beqF h)]; rfl
theorem print_chk {p : Pos4} (h : (ck p != 0) = true) : printP p = (ByteArray.empty, ck p) := by unfold printP; rw [if_neg (by simpa using h)]
theorem print_ok {p : Pos4} (h : (ck p != 0) = false) : printP p = (prB p, 0) := by unfold printP; rw [if_pos (by simpa using h)]
theorem prB_app (p : Pos4) : prB p = bytesOf (boardT (bytesL p.1)) ++ bytesOf ([32] ++ sdL p.2.1 ++ [32, 45, 32, 45, 32]) ++ bytesOf (digL p.2.2.1) ++ ⟨#[32]⟩ ++ bytesOf (digL p.2.2.2) := by
  unfold prB
  rw [printT_eq, bytesOf_app, bytesOf_app, bytesOf_app, bytesOf_app]; rfl
end Go.X

namespace Go.X
open Go

theorem rowF_shift (x : List Int) : ∀ (l : List Int) (out : List Int) (k : Int), l.foldl rowStep (x ++ out, k) = (x ++ (l.foldl rowStep (out, k)).1, (l.foldl rowStep (out, k)).2) := by
  intro l
  induction l with
  | nil => intro out k; rfl
  | cons c l ih =>
    intro out k
    rw [List.foldl_cons, List.foldl_cons]
    by_cases hc : c = 46
    · rw [step_dot hc, step_dot hc]; exact ih out (k + 1)
    · have e : ∀ y : List Int, rowStep (y, k) c = (y ++ gapL k ++ [c], 0) := fun y => by unfold rowStep; rw [if_neg hc]
      rw [e, e, List.append_assoc, List.append_assoc, ih, List.append_assoc]
theorem rowT_shift (x l : List Int) : rowEnd (l.foldl rowStep (x, 0)) = x ++ rowT l := by
  have := rowF_shift x l [] 0
  rw [List.append_nil] at this
  rw [this]; unfold rowT rowEnd; rw [List.append_assoc]
theorem rowT_piece {c : Int} {l : List Int} (h : c ≠ 46) : rowT (c :: l) = [c] ++ rowT l := by
  unfold rowT
  rw [List.foldl_cons, show rowStep ([], 0) c = ([c], 0) by unfold rowStep; rw [if_neg h]; rfl]
  exact rowT_shift [c] l
theorem dots_fold : ∀ (n : Nat) (k : Int), (List.replicate n 46).foldl rowStep ([], k) = ([], k + n) := by
  intro n
  induction n with
  | zero => intro k; simp
  | succ n ih =>
    intro k
    rw [List.replicate_succ, List.foldl_cons, show rowStep ([], k) 46 = ([], k + 1) from rfl, ih]
    congr 1; omega
theorem rowT_dots {n : Nat} {l : List Int} (hn : 0 < n) (h : ∀ c, l.head? = some c → c ≠ 46) : rowT (List.replicate n 46 ++ l) = digL n ++ rowT l := by
  have hg : gapL ((0 : Int) + (n : Int)) = digL n := by
    unfold gapL
    rw [if_pos (by omega)]; congr 1; omega
  unfold rowT
  rw [List.foldl_append, dots_fold]
  cases l with
  | nil => show [] ++ gapL ((0 : Int) + (n : Int)) = _ ++ (rowEnd ([], 0)); rw [hg]; show _ = digL n ++ []; simp
  | cons c l =>
    have hc := h c rfl
    rw [List.foldl_cons, List.foldl_cons, show rowStep ([], 0 + (n : Int)) c = (digL n ++ [c], 0) by unfold rowStep; rw [if_neg hc, hg]; rfl, show rowStep ([], 0) c = ([c], 0) by unfold rowStep; rw [if_neg hc]; rfl, rowT_shift, rowT_shift]
    simp
def nd (c : Int) : Bool := c != 46
theorem nd_f {c : Int} (h : nd c = false) : c = 46 := by unfold nd at h; simpa using h
theorem nd_t {c : Int} (h : nd c = true) : c ≠ 46 := by unfold nd at h; simpa using h
theorem all_dots {l : List Int} (h : ∀ x ∈ l, nd x = false) : l = List.replicate l.length 46 := List.eq_replicate_iff.2 ⟨rfl, fun x hx => nd_f (h x hx)⟩
structure FInv (b : List Int) (j m : Nat) (acc : List Int) : Prop where
  hi : m ≤ 9
  eq : acc ++ rowT (part b (9 * j + m) (9 * j + 9)) = rk b j
  len : acc.length ≤ m
  by_ : BYL acc
def rest (b : List Int) (j m : Nat) : List Int := part b (9 * j + m) (9 * j + 9)
theorem rest_len {b : List Int} (hb : b.length = 90) {j m : Nat} (hj : j < 10) (hm : m ≤ 9) : (rest b j m).length = 9 - m := by
  unfold rest part; rw [List.length_take, List.length_drop]; omega
theorem FInv.start (b : List Int) (j : Nat) : FInv b j 0 [] := ⟨by decide, rfl, by decide, ⟨by simp, trivial, trivial⟩⟩
theorem FInv.done {b : List Int} {j : Nat} {acc : List Int} (h : FInv b j 9 acc) : acc = rk b j := by
  have := h.eq
  rw [part_self] at this
  rw [← this]; show acc = acc ++ []; simp
theorem dig_by (n : Int) : BYL (digL n) := ⟨dig_all n, trivial, trivial⟩
theorem rest_cut {b : List Int} (hb : b.length = 90) {j m k : Nat} (hj : j < 10) (hk : m + k ≤ 9) : rest b j m = (rest b j m).take k ++ rest b j (m + k) := by
  conv => lhs; rw [← List.take_append_drop k (rest b j m)]
  congr 1
  unfold rest part
  rw [List.drop_take, List.drop_drop, show 9 * j + m + k = 9 * j + (m + k) by omega]
  congr 1
  omega
theorem FInv.neg {b : List Int} (hb : b.length = 90) {j m : Nat} {acc : List Int} (hj : j < 10) (hm : m < 9) (h : FInv b j m acc) (hv : spIdx nd (rest b j m) < 0) : FInv b j 9 (acc ++ digL ((9 - m : Nat) : Int)) := by
  have hl := rest_len hb hj h.hi
  have hd : rest b j m = List.replicate (9 - m) 46 := by
    rw [← hl]
    rcases idx_spec nd (rest b j m) with ⟨_, h2⟩ | ⟨i, _, h2, _⟩
    · exact all_dots fun x hx => by
        have := List.any_eq_false.1 h2 x hx
        simpa using this
    · rw [h2] at hv; exact absurd hv (by simp)
  have h1 := h.eq
  have h2 : rowT (rest b j m) = digL ((9 - m : Nat) : Int) := by
    rw [hd]
    have := rowT_dots (n := 9 - m) (l := []) (by omega) (by simp)
    rw [List.append_nil] at this
    rw [this]; show _ ++ [] = _; simp
  refine ⟨Nat.le_refl _, ?_, ?_, h.by_.app (dig_by _)⟩
  · rw [part_self, ← h1]
    show _ ++ [] = acc ++ rowT (rest b j m)
    rw [h2]; simp
  · rw [List.length_append, dig_one (by omega) (by omega)]
    have := h.len
    show acc.length + 1 ≤ 9
    omega
theorem FInv.pos {b : List Int} (hb : b.length = 90) {j m : Nat} {acc : List Int} (hj : j < 10) (hm : m < 9) (h : FInv b j m acc) {k : Nat} (hk : 0 < k) (hv : spIdx nd (rest b j m) = Int.ofNat k) : m + k < 9 ∧ FInv b j (m + k) (acc ++ digL (k : Int)) := by
  have hl := rest_len hb hj h.hi
  rcases idx_spec nd (rest b j m) with ⟨h2, _⟩ | ⟨i, hi, h2, h3, h4⟩
  · rw [h2] at hv; cases hv
  · rw [h2] at hv
    have : i = k := Int.ofNat.inj hv
    subst this
    rw [hl] at hi
    have hd : (rest b j m).take i = List.replicate i 46 := by
      have := all_dots h3
      rw [List.length_take, hl, Nat.min_eq_left (by omega)] at this
      exact this
    have hc := rest_cut hb hj (m := m) (k := i) (by omega)
    refine ⟨by omega, by omega, ?_, ?_, h.by_.app (dig_by _)⟩
    · show _ ++ rowT (rest b j (m + i)) = _
      rw [← h.eq]
      show _ = acc ++ rowT (rest b j m)
      rw [hc, hd, rowT_dots hk, List.append_assoc]
      intro c hcc
      refine nd_t ?_
      have : (rest b j m).getD i 0 = c := by
        rw [hc, List.getD_eq_getElem?_getD, List.getElem?_append_right (by rw [List.length_take]; omega), List.length_take, hl, Nat.min_eq_left (by omega), Nat.sub_self]
        rw [List.head?_eq_getElem?] at hcc
        rw [hcc]; rfl
      rw [← this]; exact h4
    · rw [List.length_append, dig_one (by omega) (by omega)]
      have := h.len
      show acc.length + 1 ≤ m + i
      omega
theorem FInv.zero {b : List Int} (hb : b.length = 90) (hby : ∀ x ∈ b, 0 ≤ x ∧ x < 256) {j m : Nat} {acc : List Int} (hj : j < 10) (hm : m < 9) (h : FInv b j m acc) (hv : spIdx nd (rest b j m) = 0) : FInv b j (m + 1) (acc ++ [b.getD (9 * j + m) 0]) := by
  have hl := rest_len hb hj h.hi
  have hcut : rest b j m = b.getD (9 * j + m) 0 :: rest b j (m + 1) := by
    unfold rest part
    rw [drop_cons (by omega), show 9 * j + 9 - (9 * j + m) = (9 * j + 9 - (9 * j + (m + 1))) + 1 by omega, List.take_succ_cons]; rfl
  have hne : b.getD (9 * j + m) 0 ≠ 46 := by
    rcases idx_spec nd (rest b j m) with ⟨h2, _⟩ | ⟨i, hi, h2, h3, h4⟩
    · rw [h2] at hv; cases hv
    · rw [h2] at hv
      have : i = 0 := Int.ofNat.inj hv
      subst this
      rw [hcut] at h4
      exact nd_t h4
  have hin : b.getD (9 * j + m) 0 ∈ b := by
    rw [List.getD_eq_getElem?_getD, List.getElem?_eq_getElem (by omega)]; exact List.getElem_mem _
  refine ⟨hm, ?_, ?_, h.by_.app (.one (hby _ hin))⟩
  · rw [← h.eq]
    show _ = acc ++ rowT (rest b j m)
    rw [hcut, rowT_piece hne, List.append_assoc]; rfl
  · rw [List.length_append]; have := h.len; show acc.length + 1 ≤ m + 1; omega
theorem idx_nat {f : Int → Bool} {l : List Int} (h : ¬ spIdx f l < 0) : ∃ k : Nat, spIdx f l = Int.ofNat k ∧ k < l.length := by
  rcases idx_spec f l with ⟨h2, _⟩ | ⟨i, hi, h2, _⟩
  · rw [h2] at h; exact absurd (by decide) h
  · exact ⟨i, h2, hi⟩

theorem itoa_list {n : Int} (h : 0 ≤ n) : bytesL (itoaB n) = digL n := by rw [itoa_dig h]; exact bytesL_of (dig_all n)
theorem itoa_one {n : Int} (h : 0 ≤ n) (h9 : n ≤ 9) : (itoaB n).size = 1 := by rw [itoa_dig h, size_bytesOf, dig_one h (by omega)]; rfl

theorem join_I (c : UInt8) : ∀ (L : List (List Int)), (Lib.join ((L.map bytesOf).map (·.data.toList)) [c]).map (fun b => ((b.toNat : Nat) : Int)) = joinI (c.toNat : Int) ((L.map bytesOf).map bytesL) := by
  intro L
  induction L with
  | nil => rfl
  | cons x L ih =>
    by_cases hL : L = []
    · subst hL
      show (Lib.join [_] _).map _ = _
      rw [Lib.join_one]; rfl
    · obtain ⟨y, r, rfl⟩ : ∃ y r, L = y :: r := by cases L with | nil => exact absurd rfl hL | cons y r => exact ⟨y, r, rfl⟩
      have e : Lib.join (((x :: y :: r).map bytesOf).map (·.data.toList)) [c] = (bytesOf x).data.toList ++ [c] ++ Lib.join (((y :: r).map bytesOf).map (·.data.toList)) [c] := by
        simp only [List.map_cons]
        rw [Lib.join_cons, Lib.join_cons]
        simp [Lib.joinTail]
      rw [e, List.map_append, List.map_append, ih]
      show _ = bytesL (bytesOf x) ++ (c.toNat : Int) :: joinI (c.toNat : Int) (((y :: r).map bytesOf).map bytesL)
      simp [bytesL]
theorem joinS_I (c : UInt8) {L : List (List Int)} (h : ∀ x ∈ L, ∀ y ∈ x, 0 ≤ y ∧ y < 256) : joinS (L.map bytesOf) ⟨#[c]⟩ = bytesOf (joinI (c.toNat : Int) L) := by
  have e : (L.map bytesOf).map bytesL = L := by
    rw [List.map_map]
    conv => rhs; rw [← List.map_id L]
    exact List.map_congr_left fun x hx => bytesL_of (h x hx)
  have := join_I c L
  rw [e] at this
  rw [← this, iL_bytes]; rfl
theorem joinS_len (c : UInt8) {L : List (List Int)} (h : ∀ x ∈ L, ∀ y ∈ x, 0 ≤ y ∧ y < 256) : (Lib.join ((L.map bytesOf).map (·.data.toList)) [c]).length = (joinI (c.toNat : Int) L).length := by
  have e : (L.map bytesOf).map bytesL = L := by
    rw [List.map_map]
    conv => rhs; rw [← List.map_id L]
    exact List.map_congr_left fun x hx => bytesL_of (h x hx)
  have := join_I c L
  rw [e] at this
  rw [← this, List.length_map]
def upL (b : List Int) (n : Nat) : List ByteArray := (List.range n).map fun r => bytesOf (rk b r)
theorem up_next (b : List Int) (n : Nat) : upL b n ++ [bytesOf (rk b n)] = upL b (n + 1) := by unfold upL; rw [List.range_succ, List.map_append]; rfl
theorem up_rev (b : List Int) : (upL b 10).reverse = (rksL b).map bytesOf := by
  unfold upL rksL
  rw [List.map_reverse, List.map_map]; rfl
theorem up_len (b : List Int) (n : Nat) : (upL b n).length = n := by simp [upL]
theorem rks_bd {b : List Int} (h : cellsB b) : ∀ x ∈ rksL b, ∀ y ∈ x, 0 ≤ y ∧ y < 256 := fun x hx => by
  obtain ⟨r, _, rfl⟩ := rks_mem hx
  exact rk_bd h r
theorem board_join {b : List Int} (h : cellsB b) : joinS ((rksL b).map bytesOf) ⟨#[47]⟩ = bytesOf (boardT b) := joinS_I 47 (rks_bd h)
theorem board_lj {b : List Int} (h : cellsB b) (hb : b.length = 90) : LJ ((rksL b).map bytesOf) ⟨#[47]⟩ := by
  refine ⟨by simp [rksL], ?_, trivial⟩
  have := joinS_len 47 (rks_bd h)
  have h2 := board_len h hb
  unfold boardT at h2
  show (Lib.join _ [47]).length ≤ _
  rw [this]
  exact Nat.le_trans h2 (by decide)
theorem print_join {b : List Int} {sd k f : Int} (h : PrOk b sd k f) : joinS [bytesOf (boardT b), bytesOf (sdL sd), ⟨#[45]⟩, ⟨#[45]⟩, itoaB k, itoaB f] ⟨#[32]⟩ = bytesOf (printT b sd k f) ∧ LJ [bytesOf (boardT b), bytesOf (sdL sd), ⟨#[45]⟩, ⟨#[45]⟩, itoaB k, itoaB f] ⟨#[32]⟩ := by
  have e : [bytesOf (boardT b), bytesOf (sdL sd), ⟨#[45]⟩, ⟨#[45]⟩, itoaB k, itoaB f] = (fldsL b sd k f).map bytesOf := by
    rw [itoa_dig h.k.1, itoa_dig (n := f) (by have := h.f.1; omega)]; rfl
  have hb : ∀ x ∈ fldsL b sd k f, ∀ y ∈ x, 0 ≤ y ∧ y < 256 := fun x hx y hy => (flds_32 h x hx y hy).2
  rw [e]
  refine ⟨joinS_I 32 hb, by simp [fldsL], ?_, trivial⟩
  have := joinS_len 32 hb
  have h2 := printT_len h
  unfold printT at h2
  show (Lib.join _ [32]).length ≤ _
  rw [this]
  exact Nat.le_trans h2 (by decide)
end Go.X

namespace Go.X
open Go
def startP : ByteArray := ⟨#[82, 78, 66, 65, 75, 65, 66, 78, 82, 46, 46, 46, 46, 46, 46, 46, 46, 46, 46, 67, 46, 46, 46, 46, 46, 67, 46, 80, 46, 80, 46, 80, 46, 80, 46, 80, 46, 46, 46, 46, 46, 46, 46, 46, 46,
  46, 46, 46, 46, 46, 46, 46, 46, 46, 112, 46, 112, 46, 112, 46, 112, 46, 112, 46, 99, 46, 46, 46, 46, 46, 99, 46, 46, 46, 46, 46, 46, 46, 46, 46, 46, 114, 110, 98, 97, 107, 97, 98, 110, 114]⟩
def startL : List Int := [82, 78, 66, 65, 75, 65, 66, 78, 82, 46, 46, 46, 46, 46, 46, 46, 46, 46, 46, 67, 46, 46, 46, 46, 46, 67, 46, 80, 46, 80, 46, 80, 46, 80, 46, 80, 46, 46, 46, 46, 46, 46, 46, 46, 46,
  46, 46, 46, 46, 46, 46, 46, 46, 46, 112, 46, 112, 46, 112, 46, 112, 46, 112, 46, 99, 46, 46, 46, 46, 46, 99, 46, 46, 46, 46, 46, 46, 46, 46, 46, 46, 114, 110, 98, 97, 107, 97, 98, 110, 114]
theorem start_list : bytesL startP = startL := by decide +kernel
theorem start_is : spIs startP = true := by
  refine is_iff.2 ⟨rfl, ?_⟩
  have h : ∀ n, n < 90 → spIsCell (startL.getD n 0) = true := by decide +kernel
  intro n hn
  rw [← bytesL_getD, start_list]
  exact h n hn
end Go.X

namespace Go.X
open Go

def tB4 : ByteArray := ⟨#[57, 47, 57, 32, 119]⟩
abbrev posK : EK := .pair .str (.pair (.int .i64) (.pair (.int .i64) (.int .i64)))
theorem pos_eqb (p q : Pos4) : EK.eqb posK p q = true ↔ p = q := by
  obtain ⟨a, b, c, d⟩ := p
  obtain ⟨a', b', c', d'⟩ := q
  show (strEq a a' && ((b == b') && ((c == c') && (d == d')))) = true ↔ _
  simp only [Bool.and_eq_true, beq_iff_eq, strEq_iff, Prod.mk.injEq]
theorem parse_two {s : ByteArray} (hs : s.size ≤ 1000) : ((parseP s).2 = 0 ∧ ck (parseP s).1 = 0) ∨ ((parseP s).2 ≠ 0 ∧ (parseP s).1 = (ByteArray.empty, 0, 0, 0)) := by
  rw [parse_same hs]; exact read_two s
theorem start_ck : rCheck startP 0 0 1 = 0 := by
  have ha : rArg startP 0 0 1 = false := by unfold rArg; rw [start_is]; rfl
  unfold rCheck
  rw [ha, start_list]
  decide +kernel
theorem form_B : form4 tB4 = none := by
  unfold form4
  rw [if_neg (by decide)]
  decide +kernel
theorem parse_B : (parseP tB4).2 = 6 := by
  rw [parse_same (by decide)]
  exact (p4_bad form_B).2
end Go.X

namespace Go.X
open Go

abbrev P4 := ByteArray × Int × Int × Int
end Go.X

namespace Go.X
open Go

theorem u8_of {x : Int} (h0 : 0 ≤ x) (h : x < 256) : ((UInt8.ofNat x.toNat).toNat : Int) = x := by
  rw [UInt8.toNat_ofNat']
  show ((x.toNat % 256 : Nat) : Int) = x
  omega
theorem pr4_at {f t : Int} (hf : Sqr f) (ht : Sqr t) : byteAt (bytesOf (pr4 f t)) 0 = 97 + f % 9 ∧ byteAt (bytesOf (pr4 f t)) 1 = 48 + f / 9 ∧ byteAt (bytesOf (pr4 f t)) 2 = 97 + t % 9 ∧ byteAt (bytesOf (pr4 f t)) 3 = 48 + t / 9 := by
  have h1 := hf.lo; have h2 := hf.hi; have h3 := ht.lo; have h4 := ht.hi
  unfold byteAt
  rw [bytesOf_list]
  exact ⟨u8_of (by omega) (by omega), u8_of (by omega) (by omega), u8_of (by omega) (by omega), u8_of (by omega) (by omega)⟩
theorem print_is {f t : Int} (hf : Sqr f) (ht : Sqr t) : spPrint f t = bytesOf (pr4 f t) := by unfold spPrint; exact if_pos ⟨hf.is, ht.is⟩
theorem rSq_pr {n : Int} (h : Sqr n) : rSq (97 + n % 9) (48 + n / 9) = n := by
  have h1 := h.lo; have h2 := h.hi
  rw [rSq_eq, if_neg (by omega), if_pos (by omega)]
  omega
structure MvRd (s : ByteArray) (f t : Int) : Prop where
  e : iErr s = 0
  f : iFr s = f
  t : iTo s = t
  z : s.size = 4
theorem print_read {f t : Int} (hf : Sqr f) (ht : Sqr t) : MvRd (spPrint f t) f t := by
  have h1 := hf.lo; have h3 := ht.lo
  rw [print_is hf ht]
  obtain ⟨b0, b1, b2, b3⟩ := pr4_at hf ht
  have h4 : (bytesOf (pr4 f t)).size = 4 := bytesOf_size _
  have hS : iS (bytesOf (pr4 f t)) = bytesOf (pr4 f t) := iS_f (by rw [h4]; rfl)
  have hk := okX_y (s := bytesOf (pr4 f t)) hS (by rw [h4]; rfl) (by
    rw [b0, b1, b2, b3, rSq_pr hf, rSq_pr ht]
    simp only [Bool.or_eq_false_iff, decide_eq_false_iff_not]
    omega)
  rw [b0, b1, b2, b3, rSq_pr hf, rSq_pr ht] at hk
  exact ⟨hk.1, hk.2.1, hk.2.2, h4⟩
theorem iOk_sq {s : ByteArray} (h : iErr s = 0) : Sqr (iFr s) ∧ Sqr (iTo s) := by
  unfold iErr at h
  by_cases hok : iOk s = true
  · unfold iFr iTo
    rw [if_pos hok, if_pos hok]
    unfold iOk at hok
    simp only [Bool.and_eq_true, Bool.not_eq_true', Bool.or_eq_false_iff, decide_eq_false_iff_not] at hok
    unfold iF iT at *
    have h1 := rSq_hi (f := byteAt (iS s) 0) (r := byteAt (iS s) 1)
    have h2 := rSq_hi (f := byteAt (iS s) 2) (r := byteAt (iS s) 3)
    exact ⟨⟨by omega, by omega⟩, ⟨by omega, by omega⟩⟩
  · rw [if_neg hok] at h; omega
def mvS (m : Int × Int) : Prop := Sqr m.1 ∧ Sqr m.2
theorem prM_read {m : Int × Int} (h : mvS m) : MvRd (prM m) m.1 m.2 := print_read h.1 h.2
theorem prM_ne {m : Int × Int} (h : mvS m) : strEq (prM m) ⟨#[]⟩ = false := by
  cases e : strEq (prM m) ⟨#[]⟩ with
  | false => rfl
  | true =>
    have := (prM_read h).z
    rw [strEq_eq e] at this
    cases this
theorem text_sq {l : List (Int × Int)} (h : ∀ m ∈ l, mvS m) : spText l = joinS (l.map prM) ⟨#[32]⟩ := by
  unfold spText
  rw [if_pos]
  rw [List.all_eq_true]
  intro m hm
  rw [prM_ne (h m hm)]; rfl

def tokM (t : ByteArray) : Int × Int := (iFr t, iTo t)
theorem print_size {f t : Int} : (Sqr f ∧ Sqr t ∧ (spPrint f t).size = 4) ∨ (¬ (Sqr f ∧ Sqr t) ∧ spPrint f t = ⟨#[]⟩) := by
  by_cases h : Sqr f ∧ Sqr t
  · exact .inl ⟨h.1, h.2, (print_read h.1 h.2).z⟩
  · refine .inr ⟨h, print_no fun hh => h ⟨?_, ?_⟩⟩
    · have := isSquare_iff.1 hh.1; exact ⟨this.1, this.2⟩
    · have := isSquare_iff.1 hh.2; exact ⟨this.1, this.2⟩
theorem sameM_self (l : List (Int × Int)) : sameM l l = true := by unfold sameM; exact decide_eq_true rfl
end Go.X

namespace Go.X
open Go

abbrev Cmd : Type := Int × Pos4 × List (Int × Int) × Int
def pos0 : Pos4 := (ByteArray.empty, 0, 0, 0)
def cmd0 : Cmd := (0, pos0, [], 0)
def startC : Pos4 := (startP, 0, 0, 1)
def tUcci : ByteArray := ⟨#[117, 99, 99, 105]⟩
def tReady : ByteArray := ⟨#[105, 115, 114, 101, 97, 100, 121]⟩
def tProbe : ByteArray := ⟨#[112, 114, 111, 98, 101]⟩
def tStop : ByteArray := ⟨#[115, 116, 111, 112]⟩
def tQuit : ByteArray := ⟨#[113, 117, 105, 116]⟩
def tGo : ByteArray := ⟨#[103, 111]⟩
def tDepth : ByteArray := ⟨#[100, 101, 112, 116, 104]⟩
def tBan : ByteArray := ⟨#[98, 97, 110, 109, 111, 118, 101, 115]⟩
def tPosition : ByteArray := ⟨#[112, 111, 115, 105, 116, 105, 111, 110]⟩
def tFen : ByteArray := ⟨#[102, 101, 110]⟩
def tStart : ByteArray := ⟨#[115, 116, 97, 114, 116, 112, 111, 115]⟩
def tMoves : ByteArray := ⟨#[109, 111, 118, 101, 115]⟩
def wB (s : ByteArray) : List ByteArray := if 4096 < s.size then [] else (wordsL (bytesL s)).map bytesOf
def mvL (l : List ByteArray) : List (Int × Int) × Int := if l.any (fun w => iErr w != 0) = true then ([], 6) else if 1024 < l.length then ([], 8) else (l.map tokM, 0)
def plainK (w : ByteArray) : Int := if strEq w tUcci = true then 1 else if strEq w tReady = true then 2 else if strEq w tProbe = true then 6 else if strEq w tStop = true then 7 else if strEq w tQuit = true then 8 else 0
def plainW (k : Int) : ByteArray := if k = 1 then tUcci else if k = 2 then tReady else if k = 6 then tProbe else if k = 7 then tStop else if k = 8 then tQuit else ByteArray.empty
def endsAt (l : List ByteArray) (n : Nat) : Bool := decide (l.length = n) || (decide (n < l.length) && strEq (l.getD n ByteArray.empty) tMoves)
def placeN (l : List ByteArray) : Nat :=
  if l.length = 0 then 0
  else if (strEq (l.getD 0 ByteArray.empty) tStart && endsAt l 1) = true then 1
  else if strEq (l.getD 0 ByteArray.empty) tFen = false then 0
  else if endsAt l 3 = true then 3
  else if endsAt l 7 = true then 7
  else 0
def posE (l : List ByteArray) (n : Nat) : Pos4 × Int := if n = 1 then (startC, 0) else parseP (joinS ((l.drop 1).take (n - 1)) ⟨#[32]⟩)
def movE (l : List ByteArray) (n : Nat) (e : Int) : List (Int × Int) × Int := if e = 0 ∧ n < l.length then mvL (l.drop (n + 1)) else ([], e)
def setC (l : List ByteArray) : Cmd × Int :=
  if placeN l = 0 then (cmd0, 9)
  else if (movE l (placeN l) (posE l (placeN l)).2).2 = 0 then ((3, (posE l (placeN l)).1, (movE l (placeN l) (posE l (placeN l)).2).1, 0), 0)
  else (cmd0, (movE l (placeN l) (posE l (placeN l)).2).2)
def nlB (s : ByteArray) : Bool := (bytesL s).any fun c => c == 10 || c == 13
def goOk (w : ByteArray) : Bool := atoiOk w && decide (1 ≤ atoiV w) && decide (atoiV w ≤ 64) && strEq (itoaB (atoiV w)) w
def goC (l : List ByteArray) : Cmd × Int := if l.length = 3 ∧ strEq (l.getD 1 ByteArray.empty) tDepth = true ∧ (l.getD 2 ByteArray.empty).size ≤ 2 ∧ goOk (l.getD 2 ByteArray.empty) = true then ((5, pos0, [], atoiV (l.getD 2 ByteArray.empty)), 0) else (cmd0, 9)
def banC (l : List ByteArray) : Cmd × Int := if (mvL (l.drop 1)).2 = 0 then ((4, pos0, (mvL (l.drop 1)).1, 0), 0) else (cmd0, (mvL (l.drop 1)).2)
def wordsC (l : List ByteArray) (nl : Bool) : Cmd × Int :=
  if l.length = 0 ∨ nl = true then (cmd0, 9)
  else if plainK (l.getD 0 ByteArray.empty) ≠ 0 ∧ l.length = 1 then ((plainK (l.getD 0 ByteArray.empty), pos0, [], 0), 0)
  else if strEq (l.getD 0 ByteArray.empty) tGo = true then goC l
  else if strEq (l.getD 0 ByteArray.empty) tBan = true then banC l
  else if strEq (l.getD 0 ByteArray.empty) tPosition = true then setC (l.drop 1)
  else (cmd0, 9)
def parseC (s : ByteArray) : Cmd × Int := wordsC (wB s) (nlB s)
def badT (ms : List (Int × Int)) : Bool := strEq (spText ms) ByteArray.empty && !ms.isEmpty
def setW (p : Pos4) (ms : List (Int × Int)) : List ByteArray := (if p = startC then [tPosition, tStart] else [tPosition, tFen, prB p]) ++ (if ms = [] then [] else [tMoves, spText ms])
def printC (c : Cmd) : ByteArray :=
  if c.1 = 5 then (if c.2.2.2 < 1 ∨ 64 < c.2.2.2 then ByteArray.empty else joinS [tGo, tDepth, itoaB c.2.2.2] ⟨#[32]⟩)
  else if c.1 = 3 then (if ck c.2.1 ≠ 0 ∨ badT c.2.2.1 = true then ByteArray.empty else joinS (setW c.2.1 c.2.2.1) ⟨#[32]⟩)
  else if c.1 = 4 then (if badT c.2.2.1 = true then ByteArray.empty else joinS ([tBan] ++ if c.2.2.1 = [] then [] else [spText c.2.2.1]) ⟨#[32]⟩)
  else plainW c.1

theorem joinI_app (s : Int) : ∀ {A B : List (List Int)}, A ≠ [] → B ≠ [] → joinI s (A ++ B) = joinI s A ++ s :: joinI s B := by
  intro A
  induction A with
  | nil => intro B h; exact absurd rfl h
  | cons x A ih =>
    intro B _ hB
    by_cases hA : A = []
    · subst hA; exact joinI_cons s x hB
    · rw [List.cons_append, joinI_cons s x (by simp [hA]), joinI_cons s x hA, ih hA hB]; simp
theorem joinI_flat (s : Int) {A B C : List (List Int)} (hB : B ≠ []) : joinI s (A ++ [joinI s B] ++ C) = joinI s (A ++ B ++ C) := by
  have h1 : joinI s ([joinI s B] ++ C) = joinI s (B ++ C) := by
    by_cases hC : C = []
    · subst hC; simp [joinI]
    · rw [joinI_app s (by simp) hC, joinI_app s hB hC]; rfl
  by_cases hA : A = []
  · subst hA; exact h1
  · rw [List.append_assoc, List.append_assoc, joinI_app s hA (by simp), h1, joinI_app s hA (by simp [hB])]

theorem no9 : ∀ (t a b : List Int), t.foldl rstep (some a) = some b → ∀ x ∈ t, x ≠ 9 := by
  intro t
  induction t with
  | nil => intro a b _ x hx; cases hx
  | cons y t ih =>
    intro a b h x hx
    rw [List.foldl_cons] at h
    cases hy : rstep (some a) y with
    | none => rw [hy, rstep_none] at h; cases h
    | some a' =>
      rw [hy] at h
      rcases List.mem_cons.1 hx with rfl | hx
      · intro e; subst e
        have : rstep (some a) 9 = none := by unfold rstep; rfl
        rw [this] at hy; cases hy
      · exact ih _ _ h x hx
theorem rows_9 {b : List Int} (h : cellsB b) (hb : b.length = 90) : ∀ c ∈ boardT b, c ≠ 9 := joinI_prop 47 (by decide) fun x hx y hy => by
  obtain ⟨r, hr, rfl⟩ := rks_mem hx
  exact no9 _ _ _ (rk_read h hb hr) y hy
theorem rk_ne {b : List Int} (h : cellsB b) (hb : b.length = 90) {r : Nat} (hr : r < 10) : rk b r ≠ [] := by
  intro e
  have h1 := rk_read h hb hr
  rw [e] at h1
  have h2 := congrArg (fun o : Option (List Int) => o.map List.length) h1
  rw [Option.map_some, part_len hb hr] at h2
  exact absurd h2 (by decide)
theorem board_ne {b : List Int} (h : cellsB b) (hb : b.length = 90) : boardT b ≠ [] := by
  have : boardT b = rk b 9 ++ 47 :: joinI 47 ((List.range 9).map (rk b)).reverse := by
    unfold boardT rksL
    rw [List.range_succ, List.map_append, List.reverse_append]
    show joinI 47 (rk b 9 :: _) = _
    refine joinI_cons 47 (rk b 9) (L := ((List.range 9).map (rk b)).reverse) ?_
    simp
  rw [this]; simp
theorem dig_ne (n : Int) : digL n ≠ [] := by
  unfold digL
  intro e
  exact dec_ne _ (List.map_eq_nil_iff.1 e)
theorem flds_word {b : List Int} {sd k f : Int} (h : PrOk b sd k f) : ∀ x ∈ fldsL b sd k f, Word x := by
  intro x hx
  have hn9 : ∀ y ∈ x, y ≠ 9 := by
    intro y hy
    simp only [fldsL, List.mem_cons, List.not_mem_nil, or_false] at hx
    rcases hx with rfl | rfl | rfl | rfl | rfl | rfl
    · exact rows_9 h.c h.l y hy
    · unfold sdL at hy; split at hy <;> (rw [List.mem_singleton.1 hy]; decide)
    · rw [List.mem_singleton.1 hy]; decide
    · rw [List.mem_singleton.1 hy]; decide
    · have := dig_bd _ y hy; omega
    · have := dig_bd _ y hy; omega
  refine ⟨?_, fun y hy hb => ?_⟩
  · simp only [fldsL, List.mem_cons, List.not_mem_nil, or_false] at hx
    rcases hx with rfl | rfl | rfl | rfl | rfl | rfl
    · exact board_ne h.c h.l
    · unfold sdL; split <;> simp
    · simp
    · simp
    · exact dig_ne _
    · exact dig_ne _
  · rcases hb with hb | hb
    · exact (flds_32 h x hx y hy).1 hb
    · exact hn9 y hy hb
theorem mv_word {m : Int × Int} (h : mvS m) : Word (pr4 m.1 m.2) ∧ (∀ c ∈ pr4 m.1 m.2, 0 ≤ c ∧ c < 256) := by
  have h1 := h.1.lo; have h2 := h.1.hi; have h3 := h.2.lo; have h4 := h.2.hi
  have key : ∀ c ∈ pr4 m.1 m.2, 48 ≤ c ∧ c < 256 := by
    intro c hc
    simp only [pr4, List.mem_cons, List.not_mem_nil, or_false] at hc
    rcases hc with rfl | rfl | rfl | rfl <;> omega
  refine ⟨⟨by simp [pr4], fun c hc hb => ?_⟩, fun c hc => ?_⟩
  · have := key c hc
    rcases hb with hb | hb <;> omega
  · have := key c hc; omega
theorem prM_bytes {m : Int × Int} (h : mvS m) : prM m = bytesOf (pr4 m.1 m.2) := print_is h.1 h.2
theorem text_I {ms : List (Int × Int)} (h : ∀ m ∈ ms, mvS m) : spText ms = bytesOf (joinI 32 (ms.map fun m => pr4 m.1 m.2)) := by
  rw [text_sq h]
  have e : ms.map prM = (ms.map fun m => pr4 m.1 m.2).map bytesOf := by
    rw [List.map_map]
    exact List.map_congr_left fun m hm => prM_bytes (h m hm)
  rw [e]
  exact joinS_I 32 fun x hx => by
    obtain ⟨m, hm, rfl⟩ := List.mem_map.1 hx
    exact (mv_word (h m hm)).2
theorem bad_mv {ms : List (Int × Int)} (h : badT ms = false) : ∀ m ∈ ms, mvS m := by
  unfold badT at h
  by_cases hm : ms = []
  · subst hm; intro m hm; cases hm
  · have hi : ms.isEmpty = false := by cases ms with | nil => exact absurd rfl hm | cons x l => rfl
    rw [hi, Bool.not_false, Bool.and_true] at h
    unfold spText at h
    split at h
    · rename_i ha
      intro m hmem
      have := List.all_eq_true.1 ha m hmem
      refine Classical.byContradiction fun hn => ?_
      have hp : prM m = ⟨#[]⟩ := by
        unfold prM
        refine print_no fun hh => hn ?_
        exact ⟨⟨(isSquare_iff.1 hh.1).1, (isSquare_iff.1 hh.1).2⟩, ⟨(isSquare_iff.1 hh.2).1, (isSquare_iff.1 hh.2).2⟩⟩
      rw [hp, (strEq_iff _ _).2 rfl] at this
      exact Bool.noConfusion this
    · have h2 : strEq ⟨#[]⟩ ByteArray.empty = true := (strEq_iff _ _).2 rfl
      rw [h2] at h; exact Bool.noConfusion h
end Go.X

namespace Go.X
open Go
structure Pr (w : List Int) : Prop where
  ne : w ≠ []
  lo : ∀ c ∈ w, 33 ≤ c
  hi : ∀ c ∈ w, c < 256
theorem Pr.word {w : List Int} (h : Pr w) : Word w := ⟨h.ne, fun c hc hb => by have := h.lo c hc; rcases hb with hb | hb <;> omega⟩
theorem Pr.by_ {w : List Int} (h : Pr w) : ∀ c ∈ w, 0 ≤ c ∧ c < 256 := fun c hc => ⟨by have := h.lo c hc; omega, h.hi c hc⟩
theorem low_tab : ∀ n : Nat, n < 33 → ¬ (49 ≤ letter4 n ∧ letter4 n ≤ 57) ∧ ¬ 0 ≤ spSide (letter4 n) := by decide +kernel
theorem rank_low : ∀ (t a b : List Int), (∀ x ∈ t, 0 ≤ x) → t.foldl rstep (some a) = some b → ∀ x ∈ t, 33 ≤ x := by
  intro t
  induction t with
  | nil => intro a b _ _ x hx; cases hx
  | cons y t ih =>
    intro a b h0 h x hx
    rw [List.foldl_cons] at h
    cases hy : rstep (some a) y with
    | none => rw [hy, rstep_none] at h; cases h
    | some a' =>
      rw [hy] at h
      rcases List.mem_cons.1 hx with rfl | hx
      · refine Classical.byContradiction fun hn => ?_
        have hz := h0 x (by simp)
        have ht := low_tab x.toNat (by omega)
        rw [show ((x.toNat : Nat) : Int) = x by omega] at ht
        unfold rstep at hy
        simp only at hy
        rw [if_neg ht.1, if_neg ht.2] at hy
        cases hy
      · exact ih _ _ (fun z hz => h0 z (by simp [hz])) h x hx
theorem board_low {b : List Int} (h : cellsB b) (hb : b.length = 90) : ∀ c ∈ boardT b, 33 ≤ c := joinI_prop 47 (by decide) fun x hx y hy => by
  obtain ⟨r, hr, rfl⟩ := rks_mem hx
  exact rank_low _ _ _ (fun z hz => (rk_bd h r z hz).1) (rk_read h hb hr) y hy
theorem flds_pr {b : List Int} {sd k f : Int} (h : PrOk b sd k f) : ∀ x ∈ fldsL b sd k f, Pr x := by
  intro x hx
  refine ⟨(flds_word h x hx).1, fun y hy => ?_, fun y hy => (flds_32 h x hx y hy).2.2⟩
  simp only [fldsL, List.mem_cons, List.not_mem_nil, or_false] at hx
  rcases hx with rfl | rfl | rfl | rfl | rfl | rfl
  · exact board_low h.c h.l y hy
  · unfold sdL at hy; split at hy <;> (rw [List.mem_singleton.1 hy]; decide)
  · rw [List.mem_singleton.1 hy]; decide
  · rw [List.mem_singleton.1 hy]; decide
  · have := dig_bd _ y hy; omega
  · have := dig_bd _ y hy; omega
theorem mv_pr {m : Int × Int} (h : mvS m) : Pr (pr4 m.1 m.2) := by
  have h1 := h.1.lo; have h2 := h.1.hi; have h3 := h.2.lo; have h4 := h.2.hi
  have key : ∀ c ∈ pr4 m.1 m.2, 33 ≤ c ∧ c < 256 := by
    intro c hc
    simp only [pr4, List.mem_cons, List.not_mem_nil, or_false] at hc
    rcases hc with rfl | rfl | rfl | rfl <;> omega
  exact ⟨by simp [pr4], fun c hc => (key c hc).1, fun c hc => (key c hc).2⟩
theorem joinI_sum (s : Int) (L : List (List Int)) : (joinI s L).length ≤ (L.map (·.length)).sum + L.length := by
  induction L with
  | nil => simp [joinI]
  | cons x L ih =>
    by_cases hL : L = []
    · subst hL; simp [joinI]
    · rw [joinI_cons s x hL]; simp only [List.length_append, List.length_cons, List.map_cons, List.sum_cons]; omega
theorem line_words {L : List (List Int)} (h : ∀ w ∈ L, Pr w) (hl : (joinI 32 L).length ≤ 4096) : wB (bytesOf (joinI 32 L)) = L.map bytesOf ∧ nlB (bytesOf (joinI 32 L)) = false := by
  have hb : bytesL (bytesOf (joinI 32 L)) = joinI 32 L := bytesL_of (joinI_bd 32 (by decide) fun x hx => (h x hx).by_)
  constructor
  · unfold wB
    rw [if_neg (by rw [size_bytesOf]; omega), hb, words_join fun w hw => (h w hw).word]
  · unfold nlB
    rw [hb]
    refine List.any_eq_false.2 fun c hc => ?_
    have : c = 32 ∨ 33 ≤ c := joinI_prop (P := fun c => c = 32 ∨ 33 ≤ c) 32 (.inl rfl) (fun x hx y hy => .inr ((h x hx).lo y hy)) c hc
    simp only [Bool.or_eq_true, beq_iff_eq, not_or]
    omega
theorem sne {x y : ByteArray} (h : x ≠ y) : strEq x y = false := by
  cases e : strEq x y with
  | false => rfl
  | true => exact absurd (strEq_eq e) h
theorem seq (x : ByteArray) : strEq x x = true := (strEq_iff _ _).2 rfl
theorem k_position : plainK tPosition = 0 := by
  unfold plainK
  rw [sne (by decide), sne (by decide), sne (by decide), sne (by decide), sne (by decide)]; rfl
theorem k_go : plainK tGo = 0 := by
  unfold plainK
  rw [sne (by decide), sne (by decide), sne (by decide), sne (by decide), sne (by decide)]; rfl
theorem k_ban : plainK tBan = 0 := by
  unfold plainK
  rw [sne (by decide), sne (by decide), sne (by decide), sne (by decide), sne (by decide)]; rfl
theorem mvL_read {ms : List (Int × Int)} (h : ∀ m ∈ ms, mvS m) (hl : ms.length ≤ 1024) : mvL (ms.map prM) = (ms, 0) := by
  unfold mvL
  have h1 : (ms.map prM).any (fun w => iErr w != 0) = false := by
    refine List.any_eq_false.2 fun w hw => ?_
    obtain ⟨m, hm, rfl⟩ := List.mem_map.1 hw
    rw [(prM_read (h m hm)).e]; decide
  rw [h1, if_neg (by decide), if_neg (by rw [List.length_map]; omega), List.map_map]
  have : ms.map (tokM ∘ prM) = ms := by
    conv => rhs; rw [← List.map_id ms]
    refine List.map_congr_left fun m hm => ?_
    have := prM_read (h m hm)
    show (iFr (prM m), iTo (prM m)) = m
    rw [this.f, this.t]
  rw [this]
/- The words of a command. -/
def tailL (ms : List (Int × Int)) : List (List Int) := if ms = [] then [] else bytesL tMoves :: ms.map fun m => pr4 m.1 m.2
def headL (p : Pos4) : List (List Int) := if p = startC then [bytesL tPosition, bytesL tStart] else bytesL tPosition :: bytesL tFen :: fldsL (bytesL p.1) p.2.1 p.2.2.1 p.2.2.2
theorem pr_lit {t : ByteArray} (h : (bytesL t).all (fun c => decide (33 ≤ c)) = true) (hn : t.size ≠ 0) : Pr (bytesL t) := by
  refine ⟨fun e => ?_, fun c hc => ?_, fun c hc => (bytesL_bound t c hc).2⟩
  · have := congrArg List.length e; rw [bL_len] at this; exact hn this
  · exact of_decide_eq_true (List.all_eq_true.1 h c hc)
theorem pr_moves : Pr (bytesL tMoves) := pr_lit (by decide) (by decide)
theorem pr_position : Pr (bytesL tPosition) := pr_lit (by decide) (by decide)
theorem pr_fen : Pr (bytesL tFen) := pr_lit (by decide) (by decide)
theorem pr_start : Pr (bytesL tStart) := pr_lit (by decide) (by decide)
theorem pr_ban : Pr (bytesL tBan) := pr_lit (by decide) (by decide)
theorem pr_go : Pr (bytesL tGo) := pr_lit (by decide) (by decide)
theorem pr_depth : Pr (bytesL tDepth) := pr_lit (by decide) (by decide)
theorem tail_pr {ms : List (Int × Int)} (h : ∀ m ∈ ms, mvS m) : ∀ w ∈ tailL ms, Pr w := by
  unfold tailL
  split
  · simp
  · intro w hw
    rcases List.mem_cons.1 hw with rfl | hw
    · exact pr_moves
    · obtain ⟨m, hm, rfl⟩ := List.mem_map.1 hw
      exact mv_pr (h m hm)
theorem head_pr {p : Pos4} (h : ck p = 0) : ∀ w ∈ headL p, Pr w := by
  unfold headL
  split
  · intro w hw
    rcases List.mem_cons.1 hw with rfl | hw
    · exact pr_position
    · rw [List.mem_singleton.1 hw]; exact pr_start
  · intro w hw
    rcases List.mem_cons.1 hw with rfl | hw
    · exact pr_position
    · rcases List.mem_cons.1 hw with rfl | hw
      · exact pr_fen
      · exact flds_pr (pr_ok h) w hw
theorem mvs_len (ms : List (Int × Int)) : ((ms.map fun m => pr4 m.1 m.2).map (·.length)).sum = 4 * ms.length := by
  induction ms with
  | nil => rfl
  | cons m ms ih => simp only [List.map_cons, List.sum_cons, List.length_cons] at ih ⊢; rw [ih]; show 4 + _ = _; omega
theorem tail_len (ms : List (Int × Int)) : (joinI 32 (tailL ms)).length ≤ 5 * ms.length + 6 := by
  unfold tailL
  split
  · simp [joinI]
  · refine Nat.le_trans (joinI_sum 32 _) ?_
    rw [List.map_cons, List.sum_cons, mvs_len, List.length_cons, List.length_map]
    have : (bytesL tMoves).length = 5 := by decide
    omega
theorem head_len {p : Pos4} (h : ck p = 0) : (joinI 32 (headL p)).length ≤ 620 := by
  unfold headL
  split
  · decide
  · rw [joinI_cons 32 _ (by simp), joinI_cons 32 _ (by simp [fldsL])]
    have h1 := printT_len (pr_ok h)
    unfold printT at h1
    have h2 : (bytesL tPosition).length = 8 := by decide
    have h3 : (bytesL tFen).length = 3 := by decide
    simp only [List.length_append, List.length_cons]
    omega
theorem head_ne (p : Pos4) : headL p ≠ [] := by unfold headL; split <;> simp
theorem both_len {p : Pos4} {ms : List (Int × Int)} (h : ck p = 0) (hm : ms.length ≤ 600) : (joinI 32 (headL p ++ tailL ms)).length ≤ 4096 := by
  have h1 := head_len h
  have h2 := tail_len ms
  by_cases ht : tailL ms = []
  · rw [ht, List.append_nil]; omega
  · rw [joinI_app 32 (head_ne p) ht]; simp only [List.length_append, List.length_cons]; omega
theorem set_words {p : Pos4} {ms : List (Int × Int)} (h : ck p = 0) (hm : ∀ m ∈ ms, mvS m) : joinS (setW p ms) ⟨#[32]⟩ = bytesOf (joinI 32 (headL p ++ tailL ms)) := by
  have e1 : ∀ t : ByteArray, t = bytesOf (bytesL t) := fun t => (bytesOf_bytesL t).symm
  have hmb : ∀ c ∈ joinI 32 (ms.map fun m => pr4 m.1 m.2), 0 ≤ c ∧ c < 256 := joinI_bd 32 (by decide) fun x hx => by
    obtain ⟨m, hm', rfl⟩ := List.mem_map.1 hx
    exact (mv_pr (hm m hm')).by_
  have hpb := print_bd (pr_ok h)
  have hA : (if p = startC then [tPosition, tStart] else [tPosition, tFen, prB p]) = (if p = startC then [bytesL tPosition, bytesL tStart] else [bytesL tPosition, bytesL tFen, joinI 32 (fldsL (bytesL p.1) p.2.1 p.2.2.1 p.2.2.2)]).map bytesOf := by
    split
    · show [tPosition, tStart] = [bytesOf (bytesL tPosition), bytesOf (bytesL tStart)]
      rw [← e1, ← e1]
    · show [tPosition, tFen, prB p] = [bytesOf (bytesL tPosition), bytesOf (bytesL tFen), prB p]
      rw [← e1, ← e1]
  have hB : (if ms = [] then [] else [tMoves, spText ms]) = (if ms = [] then [] else [bytesL tMoves, joinI 32 (ms.map fun m => pr4 m.1 m.2)]).map bytesOf := by
    split
    · rfl
    · show [tMoves, spText ms] = [bytesOf (bytesL tMoves), bytesOf (joinI 32 (ms.map fun m => pr4 m.1 m.2))]
      rw [← e1, text_I hm]
  unfold setW
  rw [hA, hB, ← List.map_append]
  refine (joinS_I 32 ?_).trans ?_
  · intro x hx
    rcases List.mem_append.1 hx with hx | hx
    · split at hx
      · rcases List.mem_cons.1 hx with rfl | hx
        · exact pr_position.by_
        · rw [List.mem_singleton.1 hx]; exact pr_start.by_
      · rcases List.mem_cons.1 hx with rfl | hx
        · exact pr_position.by_
        · rcases List.mem_cons.1 hx with rfl | hx
          · exact pr_fen.by_
          · rw [List.mem_singleton.1 hx]; exact hpb
    · split at hx
      · cases hx
      · rcases List.mem_cons.1 hx with rfl | hx
        · exact pr_moves.by_
        · rw [List.mem_singleton.1 hx]; exact hmb
  · congr 1
    unfold headL tailL
    by_cases hms : ms = []
    · rw [if_pos hms, if_pos hms, List.append_nil, List.append_nil]
      by_cases hp : p = startC
      · rw [if_pos hp, if_pos hp]; rfl
      · rw [if_neg hp, if_neg hp]
        have := joinI_flat 32 (A := [bytesL tPosition, bytesL tFen]) (B := fldsL (bytesL p.1) p.2.1 p.2.2.1 p.2.2.2) (C := []) (by simp [fldsL])
        simpa using this
    · rw [if_neg hms, if_neg hms]
      have hmn : (ms.map fun m => pr4 m.1 m.2) ≠ [] := by simpa using hms
      by_cases hp : p = startC
      · rw [if_pos hp, if_pos hp]
        have := joinI_flat 32 (A := [bytesL tPosition, bytesL tStart, bytesL tMoves]) (B := ms.map fun m => pr4 m.1 m.2) (C := []) hmn
        simpa using this
      · rw [if_neg hp, if_neg hp]
        have h1 := joinI_flat 32 (A := [bytesL tPosition, bytesL tFen, joinI 32 (fldsL (bytesL p.1) p.2.1 p.2.2.1 p.2.2.2), bytesL tMoves]) (B := ms.map fun m => pr4 m.1 m.2) (C := []) hmn
        have h2 := joinI_flat 32 (A := [bytesL tPosition, bytesL tFen]) (B := fldsL (bytesL p.1) p.2.1 p.2.2.1 p.2.2.2) (C := bytesL tMoves :: ms.map fun m => pr4 m.1 m.2) (by simp [fldsL])
        simp only [List.append_nil, List.cons_append, List.nil_append] at h1 h2 ⊢
        exact h1.trans h2
end Go.X
