/-
  A function's body; its contract.
-/
import Derived.Test.YtemafoaeoakbbaaGreatDoorA1
import Derived.Ground.Names7Prog
import Derived.Shelf.Spec.TrailingZeros
import Derived.Shelf.Small.Bits
import Derived.Shelf.Small.Strs
import Derived.Shelf.Strconv.Itoa0
import Derived.Shelf.Strings.Search1
import Derived.Shelf.Sort.Plain
import Derived.Shelf.GgClosure.StringsIndexFunc
import Derived.Ground.GgwProg
import Derived.Shelf.GgClosure.StringsIndexFuncTop
import Derived.Shelf.Strings.FuncGrows
import Derived.Shelf.Slices.In.SortNone
import Derived.Test.YtemafoaeoakbbaaGreatDoorProg
import Derived.Lib.Bytealg
import Derived.Laws.BitsAllLaws
import Derived.Lib.TrailingZeros
import Derived.Sort.Grow

set_option linter.unusedSimpArgs false
set_option linter.unusedVariables false

namespace Go.X
open Go.RowKit

/- ## What a callee is handed -/
mutual
/-- The rows that the arguments lead to, in the order in which they are handed over. -/
def occ : RV → List Nat
  | .row id _ => [id]
  | .view id _ _ _ _ => [id]
  | .box _ _ _ _ l => occL l
  | .fn _ l => occL l
  | .agg l => occL l
  | .tup l => occL l
  | _ => []
def occL : List RV → List Nat
  | [] => []
  | x :: l => occ x ++ occL l
end
mutual
/-- The rows that the arguments lead to by a cut. -/
def vws : RV → List Nat
  | .view id _ _ _ _ => [id]
  | .box _ _ _ _ l => vwsL l
  | .fn _ l => vwsL l
  | .agg l => vwsL l
  | .tup l => vwsL l
  | _ => []
def vwsL : List RV → List Nat
  | [] => []
  | x :: l => vws x ++ vwsL l
end
/-- What is given away is led to once. -/
def occOk : List Nat → List RV → Bool
  | [], _ => true
  | id :: l, rvs => decide ((occL rvs).count id ≤ 1) && !(vwsL rvs).contains id && occOk l rvs

theorem occOk_spec {kill : List Nat} {rvs : List RV} (h : occOk kill rvs = true) : ∀ id ∈ kill, (occL rvs).count id ≤ 1 ∧ id ∉ vwsL rvs := by
  induction kill with
  | nil => intro id hid; cases hid
  | cons x l ih =>
    simp only [occOk, Bool.and_eq_true, decide_eq_true_eq, Bool.not_eq_true', List.contains_eq_mem, decide_eq_false_iff_not] at h
    intro id hid
    rcases List.mem_cons.1 hid with rfl | hid
    · exact h.1
    · exact ih h.2 id hid

/-- The callee's own context: what it may turn are the blocks of the rows that are given away. -/
def killBlk (e : Env) (st : St) (kill : List Nat) (g : Nat) : Prop := ∃ id, id ∈ kill ∧ blkR e st id = some g

theorem HeapOK.blkR_mine {c : Ctx} {e : Env} {st : St} {w : World} (hh : HeapOK c e st w) {id g : Nat} (h : blkR e st id = some g) : Mine c e.M g ∧ g < w.heap.size := by
  simp only [blkR] at h
  cases hq : getK none st.rows id with
  | none => rw [hq] at h; cases h
  | some q =>
    rw [hq] at h
    cases hro : q.own
    · simp [hro] at h
    · simp [hro] at h; exact hh.row_lt hq hro h

def inner (c : Ctx) (e : Env) (st : St) (w : World) (kill : List Nat) (hh : HeapOK c e st w) : Ctx where
  base := w.heap.size
  wr := killBlk e st kill
  w0 := w
  size := rfl
  g0 := c.g0
  g0_le := Nat.le_trans c.g0_le hh.base_le
  wr_ge := fun k ⟨id, _, h⟩ => by
    rcases (hh.blkR_mine h).1.1 with h1 | h1
    · exact Nat.le_trans c.g0_le h1
    · exact c.wr_ge k h1
  r := none
  l := 0
  pv := []
  D0 := []
  J := fun _ M _ => ∀ k, ¬ M k
  Jlt := fun _ _ _ h k hk => absurd hk (h k)
  Jst := fun _ _ _ _ h _ _ _ _ _ => h

theorem resolveFL_cons {bs : List (Option Box)} {rs : List (Option Row)} {n : Nat} {x : AV} {l : List AV} {rvs : List RV} (h : resolveFL bs rs (n + 1) (x :: l) = some rvs) :
    ∃ r m, resolveF bs rs n x = some r ∧ resolveFL bs rs n l = some m ∧ rvs = r :: m := by
  simp only [resolveFL] at h
  split at h
  · rename_i r hr
    split at h
    · rename_i m hm; cases h; exact ⟨r, m, hr, hm, rfl⟩
    · cases h
  · cases h
theorem resolveFL_nil {bs : List (Option Box)} {rs : List (Option Row)} {n : Nat} {rvs : List RV} (h : resolveFL bs rs n [] = some rvs) : rvs = [] := by
  cases n <;> simp [resolveFL] at h; exact h

/-- What is handed over, place by place. -/
structure Handed (e : Env) (st : St) (w : World) (kill : List Nat) (bs : List (Option Box)) (rs : List (Option Row)) (bl : List Nat) (vl : List Value) (il : List Nat) : Prop where
  lb : bl.length = bs.length
  lr : vl.length = rs.length
  li : il.length = rs.length
  box : ∀ (i : Nat) (b : Box), bs[i]? = some (some b) → b.own = false ∧ ∃ g, bl[i]? = some g ∧ g < w.heap.size ∧ (∀ id, blkR e st id ≠ some g) ∧ ∃ vs : List Value, w.heap[g]? = some (.cells vs.toArray b.T (0, 0)) ∧ ∀ v ∈ vs, v.oneCell' = true
  row : ∀ (i : Nat) (r : Row), rs[i]? = some (some r) → ∃ (v : Value) (id : Nat), vl[i]? = some v ∧ il[i]? = some id ∧
    ((r.own = true ∧ id ∈ kill ∧ Owns w r.T r.k v r.l ∧ (∀ g, v.ownBlock = some g → blkR e st id = some g)) ∨
     (r.own = false ∧ ∃ (p : Option Addr) (cap : Nat), v = .slice p r.l.length cap ∧ r.l.length ≤ cap ∧ (p = none → cap = 0) ∧ ∀ j u, (valsOf r.k r.l)[j]? = some u → ∃ b, p = some b ∧ b.block < w.heap.size ∧ ¬ killBlk e st kill b.block ∧ w.cell? (b.add j) = some u))

theorem Handed.nil {e : Env} {st : St} {w : World} {kill : List Nat} : Handed e st w kill [] [] [] [] [] := ⟨rfl, rfl, rfl, fun i b h => by simp at h, fun i b h => by simp at h⟩

theorem Handed.app {e : Env} {st : St} {w : World} {kill : List Nat} {bs bs' : List (Option Box)} {rs rs' : List (Option Row)} {bl bl' : List Nat} {vl vl' : List Value} {il il' : List Nat} (h : Handed e st w kill bs rs bl vl il) (h' : Handed e st w kill bs' rs' bl' vl' il') :
    Handed e st w kill (bs ++ bs') (rs ++ rs') (bl ++ bl') (vl ++ vl') (il ++ il') := by
  refine ⟨by simp [h.lb, h'.lb], by simp [h.lr, h'.lr], by simp [h.li, h'.li], fun i b hb => ?_, fun i r hr => ?_⟩
  · by_cases hi : i < bs.length
    · rw [List.getElem?_append_left hi] at hb
      obtain ⟨h1, g, h2, h3⟩ := h.box i b hb
      exact ⟨h1, g, by rw [List.getElem?_append_left (by rw [h.lb]; exact hi)]; exact h2, h3⟩
    · rw [List.getElem?_append_right (by omega)] at hb
      obtain ⟨h1, g, h2, h3⟩ := h'.box _ b hb
      exact ⟨h1, g, by rw [List.getElem?_append_right (by rw [h.lb]; omega), h.lb]; exact h2, h3⟩
  · by_cases hi : i < rs.length
    · rw [List.getElem?_append_left hi] at hr
      obtain ⟨v, id, h1, h2, h3⟩ := h.row i r hr
      exact ⟨v, id, by rw [List.getElem?_append_left (by rw [h.lr]; exact hi)]; exact h1, by rw [List.getElem?_append_left (by rw [h.li]; exact hi)]; exact h2, h3⟩
    · rw [List.getElem?_append_right (by omega)] at hr
      obtain ⟨v, id, h1, h2, h3⟩ := h'.row _ r hr
      exact ⟨v, id, by rw [List.getElem?_append_right (by rw [h.lr]; omega), h.lr]; exact h1, by rw [List.getElem?_append_right (by rw [h.li]; omega), h.li]; exact h2, h3⟩

/-- A state and an environment that hold what is handed over. -/
def Fits (st : St) (e : Env) (nb nr : Nat) (bs : List (Option Box)) (rs : List (Option Row)) (bl : List Nat) (vl : List Value) : Prop :=
  (∀ (i : Nat) (b : Box), bs[i]? = some (some b) → getK none st.boxes (nb + i) = some b) ∧ (∀ (i : Nat) (r : Row), rs[i]? = some (some r) → getK none st.rows (nr + i) = some r) ∧
  (∀ (i g : Nat), bl[i]? = some g → e.β (nb + i) = g) ∧ (∀ (i : Nat) (v : Value), vl[i]? = some v → e.ρ (nr + i) = v)

theorem Fits.left {st : St} {e : Env} {nb nr : Nat} {bs bs' : List (Option Box)} {rs rs' : List (Option Row)} {bl bl' : List Nat} {vl vl' : List Value} (h : Fits st e nb nr (bs ++ bs') (rs ++ rs') (bl ++ bl') (vl ++ vl')) :
    Fits st e nb nr bs rs bl vl := by
  obtain ⟨h1, h2, h3, h4⟩ := h
  have key : ∀ {α : Type} (l m : List α) (i : Nat) (x : α), l[i]? = some x → (l ++ m)[i]? = some x := fun l m i x hx => by
    rw [List.getElem?_append_left (List.getElem?_eq_some_iff.1 hx).1]; exact hx
  exact ⟨fun i b hb => h1 i b (key _ _ _ _ hb), fun i b hb => h2 i b (key _ _ _ _ hb), fun i b hb => h3 i b (key _ _ _ _ hb), fun i b hb => h4 i b (key _ _ _ _ hb)⟩

theorem Fits.right {st : St} {e : Env} {nb nr : Nat} {bs bs' : List (Option Box)} {rs rs' : List (Option Row)} {bl bl' : List Nat} {vl vl' : List Value} (hb : bl.length = bs.length) (hr : vl.length = rs.length) (h : Fits st e nb nr (bs ++ bs') (rs ++ rs') (bl ++ bl') (vl ++ vl')) :
    Fits st e (nb + bs.length) (nr + rs.length) bs' rs' bl' vl' := by
  obtain ⟨h1, h2, h3, h4⟩ := h
  have key : ∀ {α : Type} (l m : List α) (i : Nat) (x : α), m[i]? = some x → (l ++ m)[l.length + i]? = some x := fun l m i x hx => by
    rw [List.getElem?_append_right (by omega)]; simpa using hx
  refine ⟨fun i b hx => ?_, fun i b hx => ?_, fun i b hx => ?_, fun i b hx => ?_⟩
  · have := h1 _ b (key bs bs' i _ hx); rwa [← Nat.add_assoc] at this
  · have := h2 _ b (key rs rs' i _ hx); rwa [← Nat.add_assoc] at this
  · have := h3 _ b (key bl bl' i _ hx); rw [hb] at this; rwa [← Nat.add_assoc] at this
  · have := h4 _ b (key vl vl' i _ hx); rw [hr] at this; rwa [← Nat.add_assoc] at this

theorem res_a_same {bs : List (Option Box)} {rs : List (Option Row)} {n : Nat} {v u : AV} (h : resolveF bs rs n v = some (.a u)) : v = u ∧ ∀ st e st' e' x, R st e v x → R st' e' u x := by
  cases n with
  | zero => simp [resolveF] at h
  | succ n =>
    cases v <;> simp only [resolveF] at h <;> (try (repeat' (split at h))) <;> (try (cases h; done)) <;> simp only [Option.some.injEq, RV.a.injEq] at h <;> subst h <;> exact ⟨rfl, fun _ _ _ _ _ h => h⟩

section
variable {c : Ctx} {st : St} {e : Env} {w : World}

/-- Blocks in which a row's elements lie. -/
theorem row_blk (hh : HeapOK c e st w) {id : Nat} {r : Row} (hr : getK none st.rows id = some r) (hne : r.l ≠ []) : ∃ p n cc, e.ρ id = .slice (some p) n cc ∧ p.block < w.heap.size ∧ ((r.own = true ∧ blkR e st id = some p.block) ∨ Fixed c e.M p.block) := by
  obtain ⟨_, h⟩ := hh.row id r hr
  have hlen : 0 < r.l.length := List.length_pos_iff.2 hne
  cases ho : r.own
  · rw [ho] at h
    obtain ⟨q, cap, hq, _, _, hc⟩ := h
    have hlt : 0 < (valsOf r.k r.l).length := by rw [valsOf_length]; exact Nat.mul_pos hlen (size_pos _)
    obtain ⟨b, rfl, hf, hcell⟩ := hc 0 _ (List.getElem?_eq_getElem hlt)
    exact ⟨b, _, cap, hq, by have := hf.1; have := hh.base_le; omega, .inr hf⟩
  · rw [ho] at h
    rcases h.1 with ⟨_, h0⟩ | ⟨g, cap, cur, fz, h1, hgg, _⟩
    · exact absurd h0 hne
    · refine ⟨_, _, cap, h1, (Array.getElem?_eq_some_iff.1 hgg).1, .inl ⟨rfl, ?_⟩⟩
      simp [blkR, hr, ho, h1, Value.ownBlock]

theorem not_kill (hh : HeapOK c e st w) {kill : List Nat} {id g : Nat} (hk : id ∉ kill) (h : blkR e st id = some g ∨ Fixed c e.M g) : ¬ killBlk e st kill g := by
  rintro ⟨id', hid', h'⟩
  rcases h with h | h
  · exact hk (hh.injR _ _ _ h' h ▸ hid')
  · exact fixed_ne h (hh.blkR_mine h').1

theorem row_handed {kill : List Nat} (hh : HeapOK c e st w) {id : Nat} {r : Row} (hr : getK none st.rows id = some r) (hk : r.own = true → id ∉ kill) :
    ∃ (p : Option Addr) (cap : Nat), e.ρ id = .slice p r.l.length cap ∧ r.l.length ≤ cap ∧ (p = none → cap = 0) ∧ ∀ j u, (valsOf r.k r.l)[j]? = some u → ∃ b, p = some b ∧ b.block < w.heap.size ∧ ¬ killBlk e st kill b.block ∧ w.cell? (b.add j) = some u := by
  obtain ⟨p, cc, hv, hcc, hp, hnil⟩ := row_shape hh hr
  refine ⟨p, cc, hv, hcc, hnil, fun j u hj => ?_⟩
  have hne : r.l ≠ [] := fun h => by rw [h] at hj; simp [valsOf] at hj
  obtain ⟨q, n, c2, h1, h2, h3⟩ := row_blk hh hr hne
  rw [hv] at h1
  simp only [Value.slice.injEq] at h1
  obtain ⟨rfl, _, _⟩ := h1
  refine ⟨q, rfl, h2, ?_, ?_⟩
  · rcases h3 with ⟨ho, h3⟩ | h3
    · exact not_kill hh (hk ho) (.inl h3)
    · rintro ⟨id', hid', h'⟩; exact fixed_ne h3 (hh.blkR_mine h').1
  · rcases row_cells hh hr with ⟨h4, _⟩ | ⟨q', c3, h4, _, h5⟩
    · exact absurd h4 hne
    · rw [hv] at h4
      simp only [Value.slice.injEq, Option.some.injEq] at h4
      obtain ⟨rfl, _, _⟩ := h4
      exact h5 j u hj

theorem view_handed {kill : List Nat} (hh : HeapOK c e st w) {id lo hi : Nat} {ex : Bool} {r : Row} {x : Value} (hr : getK none st.rows id = some r) (hk : id ∉ kill) (hx : R st e (.view id lo hi ex) x) :
    ∃ (p : Option Addr) (cap : Nat), x = .slice p (cutL lo hi r.l).length cap ∧ (cutL lo hi r.l).length ≤ cap ∧ (p = none → cap = 0) ∧ ∀ j u, (valsOf r.k (cutL lo hi r.l))[j]? = some u → ∃ b, p = some b ∧ b.block < w.heap.size ∧ ¬ killBlk e st kill b.block ∧ w.cell? (b.add j) = some u := by
  obtain ⟨hl, hlen⟩ := view_cells hh hr hx
  obtain ⟨r', hr', h3, h4, p, m, cc, p', c', hρ, rfl, h7, _, h9, h10⟩ := hx
  rw [hr] at hr'; cases hr'
  refine ⟨p', c', by rw [hlen], by rw [hlen]; exact h10, h9, fun j u hj => ?_⟩
  have hne : cutL lo hi r.l ≠ [] := fun h => by rw [h] at hj; simp [valsOf] at hj
  have hlt : lo < hi := by
    have := List.length_pos_iff.2 hne
    omega
  obtain ⟨p0, rfl, rfl⟩ := h7 hlt
  have hne' : r.l ≠ [] := fun h => by rw [h] at h4; simp at h4; omega
  obtain ⟨q, n, c2, h1, h2, h5⟩ := row_blk hh hr hne'
  rw [hρ] at h1
  simp only [Value.slice.injEq, Option.some.injEq] at h1
  obtain ⟨rfl, _, _⟩ := h1
  have hbl : (p0.add (lo * r.k.size)).block = p0.block := by unfold Addr.add; split <;> rfl
  refine ⟨_, rfl, by rw [hbl]; exact h2, ?_, ?_⟩
  · rw [hbl]
    rcases h5 with ⟨_, h5⟩ | h5
    · exact not_kill hh hk (.inl h5)
    · exact not_kill hh hk (.inr h5)
  · rcases hl with ⟨h6, _⟩ | ⟨q', c3, h6, _, h8⟩
    · exact absurd h6 hne
    · simp only [Value.slice.injEq, Option.some.injEq] at h6
      obtain ⟨rfl, _, _⟩ := h6
      exact h8 j u hj

mutual
theorem imp_spec {kill : List Nat} (hh : HeapOK c e st w) (nb nr n : Nat) (v : AV) (rv : RV) (x : Value) (hr : resolveF st.boxes st.rows n v = some rv) (h : R st e v x) (hk : ∀ id ∈ vws rv, id ∉ kill) :
    ∃ bl vl, Handed e st w kill (imp kill nb nr rv).2.1 (imp kill nb nr rv).2.2 bl vl (occ rv) ∧ ∀ st' e', Fits st' e' nb nr (imp kill nb nr rv).2.1 (imp kill nb nr rv).2.2 bl vl →
      R st' e' (imp kill nb nr rv).1 x ∧ ∀ (i : Nat) (b : Box) (g : Nat) (vs : List Value), (imp kill nb nr rv).2.1[i]? = some (some b) → bl[i]? = some g → w.heap[g]? = some (.cells vs.toArray b.T (0, 0)) → RL st' e' b.cells vs := by
  cases n with
  | zero => simp [resolveF] at hr
  | succ n =>
  cases v with
  | box id off =>
    simp only [resolveF] at hr
    split at hr
    · rename_i T cells own hb
      split at hr
      · rename_i l hl
        cases hr
        obtain ⟨_, rfl⟩ := h
        obtain ⟨⟨vs, h1, h2, h3⟩, h4⟩ := hh.box id _ hb
        simp only [vws] at hk
        obtain ⟨bl, vl, h5, h6⟩ := impL_spec hh (nb + 1) nr n cells l vs hl h2 hk
        simp only [imp, occ]
        refine ⟨e.β id :: bl, vl, ?_, fun st' e' hf => ?_⟩
        · have h7 : Handed e st w kill [some ⟨T, (impL kill (nb + 1) nr l).1, false⟩] [] [e.β id] [] [] := by
            refine ⟨rfl, rfl, rfl, fun i b hi => ?_, fun i r hi => by simp at hi⟩
            cases i with
            | zero =>
              simp at hi; subst hi
              refine ⟨rfl, _, rfl, hh.box_lt hb, fun id' hid' => ?_, vs, h1, h3⟩
              cases own with
              | true => exact hh.apart id id' (e.β id) (by simp [blkB, hb]) hid'
              | false => exact fixed_ne h4 (hh.blkR_mine hid').1
            | succ i => simp at hi
          exact h7.app h5
        · have hf' : Fits st' e' (nb + 1) nr (impL kill (nb + 1) nr l).2.1 (impL kill (nb + 1) nr l).2.2 bl vl := by
            have : Fits st' e' nb nr ([some ⟨T, (impL kill (nb + 1) nr l).1, false⟩] ++ (impL kill (nb + 1) nr l).2.1) ([] ++ (impL kill (nb + 1) nr l).2.2) ([e.β id] ++ bl) ([] ++ vl) := hf
            exact Fits.right (bl := [e.β id]) (vl := []) (rs := []) rfl rfl this
          obtain ⟨h8, h9⟩ := h6 st' e' hf'
          refine ⟨⟨⟨_, hf.1 0 _ rfl⟩, by have := hf.2.2.1 0 _ rfl; simp at this; simp [this]⟩, fun i b g vs' hi hg hw => ?_⟩
          cases i with
          | zero =>
            simp at hi hg
            subst hi; subst hg
            rw [h1] at hw
            simp only [Option.some.injEq, Obj.cells.injEq] at hw
            have : vs = vs' := by simpa using hw.1
            subst this
            exact h8
          | succ i => exact h9 i b g vs' (by simpa using hi) (by simpa using hg) hw
      · cases hr
    · cases hr
  | row id =>
    simp only [resolveF] at hr
    split at hr
    · rename_i r hrr
      cases hr
      obtain ⟨_, rfl⟩ := h
      refine ⟨[], [e.ρ id], ⟨rfl, rfl, rfl, fun i b hi => by simp [imp] at hi, fun i q hi => ?_⟩, fun st' e' hf => ⟨?_, fun i b g vs hi => by simp [imp] at hi⟩⟩
      · cases i with
        | zero =>
          simp [imp] at hi; subst hi
          refine ⟨_, id, rfl, rfl, ?_⟩
          by_cases hc : (kill.contains id && r.own) = true
          · left
            simp only [Bool.and_eq_true, List.contains_eq_mem, decide_eq_true_eq] at hc
            have h1 := (hh.row id r hrr).2
            rw [hc.2] at h1
            refine ⟨by simp [hc.1, hc.2], hc.1, h1.1, fun g hg => by simp [blkR, hrr, hc.2, hg]⟩
          · right
            have h1 := row_handed (kill := kill) (r := r) hh hrr (fun ho hin => hc (by simp [ho, hin]))
            exact ⟨by simpa using hc, h1⟩
        | succ i => simp [imp] at hi
      · exact ⟨⟨_, hf.2.1 0 _ rfl⟩, by have := hf.2.2.2 0 _ rfl; simp at this; exact this.symm⟩
    · cases hr
  | view id lo hi ex =>
    simp only [resolveF] at hr
    split at hr
    · rename_i r hrr
      cases hr
      refine ⟨[], [x], ⟨rfl, rfl, rfl, fun i b hi => by simp [imp] at hi, fun i q hi' => ?_⟩, fun st' e' hf => ⟨?_, fun i b g vs hi => by simp [imp] at hi⟩⟩
      · cases i with
        | zero =>
          simp [imp] at hi'; subst hi'
          exact ⟨_, id, rfl, rfl, .inr ⟨rfl, view_handed hh hrr (hk id (by simp [vws])) h⟩⟩
        | succ i => simp [imp] at hi'
      · exact ⟨⟨_, hf.2.1 0 _ rfl⟩, by have := hf.2.2.2 0 _ rfl; simp at this; exact this.symm⟩
    · cases hr
  | arrp id => simp only [resolveF] at hr; split at hr <;> cases hr; exact ⟨[], [], Handed.nil, fun st' e' _ => ⟨trivial, fun i b g vs hi => by simp [imp] at hi⟩⟩
  | elt id ix sub => simp only [resolveF] at hr; split at hr <;> cases hr; exact ⟨[], [], Handed.nil, fun st' e' _ => ⟨trivial, fun i b g vs hi => by simp [imp] at hi⟩⟩
  | fn f l =>
    simp only [resolveF] at hr
    split at hr
    · rename_i rl hl
      cases hr
      obtain ⟨vs, rfl, h2⟩ := h
      obtain ⟨bl, vl, h3, h4⟩ := impL_spec hh nb nr n l rl vs hl h2 hk
      exact ⟨bl, vl, h3, fun st' e' hf => ⟨⟨vs, rfl, (h4 st' e' hf).1⟩, (h4 st' e' hf).2⟩⟩
    · cases hr
  | agg l =>
    simp only [resolveF] at hr
    split at hr
    · rename_i rl hl
      cases hr
      obtain ⟨vs, rfl, h2⟩ := h
      obtain ⟨bl, vl, h3, h4⟩ := impL_spec hh nb nr n l rl vs hl h2 hk
      exact ⟨bl, vl, h3, fun st' e' hf => ⟨⟨vs, rfl, (h4 st' e' hf).1⟩, (h4 st' e' hf).2⟩⟩
    · cases hr
  | tup l =>
    simp only [resolveF] at hr
    split at hr
    · rename_i rl hl
      cases hr
      obtain ⟨vs, rfl, h2⟩ := h
      obtain ⟨bl, vl, h3, h4⟩ := impL_spec hh nb nr n l rl vs hl h2 hk
      exact ⟨bl, vl, h3, fun st' e' hf => ⟨⟨vs, rfl, (h4 st' e' hf).1⟩, (h4 st' e' hf).2⟩⟩
    · cases hr
  | i k m => simp only [resolveF] at hr; cases hr; exact ⟨[], [], Handed.nil, fun st' e' _ => ⟨h, fun i b g vs hi => by simp [imp] at hi⟩⟩
  | b y => simp only [resolveF] at hr; cases hr; exact ⟨[], [], Handed.nil, fun st' e' _ => ⟨h, fun i b g vs hi => by simp [imp] at hi⟩⟩
  | s y => simp only [resolveF] at hr; cases hr; exact ⟨[], [], Handed.nil, fun st' e' _ => ⟨h, fun i b g vs hi => by simp [imp] at hi⟩⟩
  | nilp => simp only [resolveF] at hr; cases hr; exact ⟨[], [], Handed.nil, fun st' e' _ => ⟨h, fun i b g vs hi => by simp [imp] at hi⟩⟩
  | nilf => simp only [resolveF] at hr; cases hr; exact ⟨[], [], Handed.nil, fun st' e' _ => ⟨h, fun i b g vs hi => by simp [imp] at hi⟩⟩
  | nili => simp only [resolveF] at hr; cases hr; exact ⟨[], [], Handed.nil, fun st' e' _ => ⟨h, fun i b g vs hi => by simp [imp] at hi⟩⟩
  | nils => simp only [resolveF] at hr; cases hr; exact ⟨[], [], Handed.nil, fun st' e' _ => ⟨h, fun i b g vs hi => by simp [imp] at hi⟩⟩
  | yv => simp [resolveF] at hr
  | opt g v => simp [resolveF] at hr
  | ifc T v => simp [resolveF] at hr
  | any => simp [resolveF] at hr
  termination_by n
theorem impL_spec {kill : List Nat} (hh : HeapOK c e st w) (nb nr n : Nat) (l : List AV) (rl : List RV) (vs : List Value) (hr : resolveFL st.boxes st.rows n l = some rl) (h : RL st e l vs) (hk : ∀ id ∈ vwsL rl, id ∉ kill) :
    ∃ bl vl, Handed e st w kill (impL kill nb nr rl).2.1 (impL kill nb nr rl).2.2 bl vl (occL rl) ∧ ∀ st' e', Fits st' e' nb nr (impL kill nb nr rl).2.1 (impL kill nb nr rl).2.2 bl vl →
      RL st' e' (impL kill nb nr rl).1 vs ∧ ∀ (i : Nat) (b : Box) (g : Nat) (vs : List Value), (impL kill nb nr rl).2.1[i]? = some (some b) → bl[i]? = some g → w.heap[g]? = some (.cells vs.toArray b.T (0, 0)) → RL st' e' b.cells vs := by
  cases n with
  | zero => simp [resolveFL] at hr
  | succ n =>
  cases l with
  | nil =>
    simp only [resolveFL, Option.some.injEq] at hr
    subst hr
    exact ⟨[], [], Handed.nil, fun st' e' _ => ⟨h, fun i b g vs hi => by simp [impL] at hi⟩⟩
  | cons x l =>
    obtain ⟨r, m, h1, h2, rfl⟩ := resolveFL_cons hr
    obtain ⟨v, vs', rfl, h3, h4⟩ := h
    simp only [vwsL, List.mem_append] at hk
    obtain ⟨bl, vl, h5, h6⟩ := imp_spec hh nb nr n x r v h1 h3 (fun id hid => hk id (.inl hid))
    obtain ⟨bl', vl', h7, h8⟩ := impL_spec hh (nb + (imp kill nb nr r).2.1.length) (nr + (imp kill nb nr r).2.2.length) n l m vs' h2 h4 (fun id hid => hk id (.inr hid))
    simp only [impL, appendList_eq, occL]
    refine ⟨bl ++ bl', vl ++ vl', h5.app h7, fun st' e' hf => ?_⟩
    obtain ⟨h9, h10⟩ := h6 st' e' hf.left
    obtain ⟨h11, h12⟩ := h8 st' e' (hf.right h5.lb h5.lr)
    refine ⟨⟨v, vs', rfl, h9, h11⟩, fun i b g vs hi hg hw => ?_⟩
    by_cases hlt : i < (imp kill nb nr r).2.1.length
    · rw [List.getElem?_append_left hlt] at hi
      rw [List.getElem?_append_left (by rw [h5.lb]; exact hlt)] at hg
      exact h10 i b g vs hi hg hw
    · rw [List.getElem?_append_right (Nat.le_of_not_lt hlt)] at hi
      rw [List.getElem?_append_right (by rw [h5.lb]; exact Nat.le_of_not_lt hlt), h5.lb] at hg
      exact h12 _ b g vs hi hg hw
  termination_by n
end

def resolvesTo (st : St) : List AV → List RV → Prop
  | [], [] => True
  | x :: l, y :: m => resolve st x = some y ∧ resolvesTo st l m
  | _, _ => False

theorem normL_cons (sh : List (Option (TypeId × EK))) (r : RV) (m : List RV) : ∃ r', normL sh (r :: m) = r' :: normL sh.tail m ∧ (r' = r ∨ ∃ T k, r = .a .nils ∧ r' = .row 999999 ⟨T, k, [], true⟩) := by
  cases sh with
  | nil => exact ⟨r, by cases m <;> rfl, .inl rfl⟩
  | cons s sh =>
    cases s with
    | none => exact ⟨r, rfl, .inl rfl⟩
    | some q =>
      obtain ⟨T, k⟩ := q
      by_cases hrn : r = .a .nils
      · subst hrn; exact ⟨_, rfl, .inr ⟨T, k, rfl, rfl⟩⟩
      · refine ⟨r, ?_, .inl rfl⟩
        cases r with
        | a v => cases v <;> first | rfl | exact absurd rfl hrn
        | _ => rfl

theorem impA_spec {kill : List Nat} (hh : HeapOK c e st w) : ∀ (l : List AV) (sh : List (Option (TypeId × EK))) (nb nr : Nat) (rl : List RV) (vs : List Value) (_ : resolvesTo st l rl) (_ : RL st e l vs) (_ : ∀ id ∈ vwsL (normL sh rl), id ∉ kill),
    ∃ bl vl, Handed e st w kill (impL kill nb nr (normL sh rl)).2.1 (impL kill nb nr (normL sh rl)).2.2 bl vl (occL (normL sh rl)) ∧ ∀ st' e', Fits st' e' nb nr (impL kill nb nr (normL sh rl)).2.1 (impL kill nb nr (normL sh rl)).2.2 bl vl →
      RL st' e' (impL kill nb nr (normL sh rl)).1 vs ∧ ∀ (i : Nat) (b : Box) (g : Nat) (vs : List Value), (impL kill nb nr (normL sh rl)).2.1[i]? = some (some b) → bl[i]? = some g → w.heap[g]? = some (.cells vs.toArray b.T (0, 0)) → RL st' e' b.cells vs := by
  intro l
  induction l with
  | nil =>
    intro sh nb nr rl vs hr h hk
    cases rl with
    | cons _ _ => exact hr.elim
    | nil =>
    have : normL sh [] = [] := by cases sh with
      | nil => rfl
      | cons s sh => cases s <;> rfl
    rw [this] at hk ⊢
    exact ⟨[], [], Handed.nil, fun st' e' _ => ⟨h, fun i b g vs hi => by simp [impL] at hi⟩⟩
  | cons x l ih =>
    intro sh nb nr rl vs hr h hk
    cases rl with
    | nil => exact hr.elim
    | cons r m =>
    obtain ⟨h1, h2⟩ := hr
    obtain ⟨v, vs', rfl, h3, h4⟩ := h
    obtain ⟨r', hn, hr'⟩ := normL_cons sh r m
    rw [hn] at hk ⊢
    simp only [vwsL, List.mem_append] at hk
    have h5' : ∃ bl vl, Handed e st w kill (imp kill nb nr r').2.1 (imp kill nb nr r').2.2 bl vl (occ r') ∧ ∀ st' e', Fits st' e' nb nr (imp kill nb nr r').2.1 (imp kill nb nr r').2.2 bl vl →
        R st' e' (imp kill nb nr r').1 v ∧ ∀ (i : Nat) (b : Box) (g : Nat) (vs : List Value), (imp kill nb nr r').2.1[i]? = some (some b) → bl[i]? = some g → w.heap[g]? = some (.cells vs.toArray b.T (0, 0)) → RL st' e' b.cells vs := by
      rcases hr' with rfl | ⟨T, k, rfl, rfl⟩
      · exact imp_spec hh nb nr 200 x r' v h1 h3 (fun id hid => hk id (.inl hid))
      · obtain ⟨rfl, _⟩ := res_a_same (n := 200) h1
        have hv : v = .slice none 0 0 := h3
        subst hv
        refine ⟨[], [.slice none 0 0], ⟨rfl, rfl, rfl, fun i b hi => by simp [imp] at hi, fun i q hi => ?_⟩, fun st' e' hf => ⟨?_, fun i b g vs hi => by simp [imp] at hi⟩⟩
        · cases i with
          | zero =>
            simp [imp] at hi; subst hi
            refine ⟨_, 999999, rfl, rfl, ?_⟩
            by_cases hc : 999999 ∈ kill
            · exact .inl ⟨by simp [hc], hc, .inl ⟨rfl, rfl⟩, fun g hg => by simp [Value.ownBlock] at hg⟩
            · exact .inr ⟨by simp [hc], none, 0, rfl, by simp, fun _ => rfl, fun j u hj => by simp [valsOf] at hj⟩
          | succ i => simp [imp] at hi
        · exact ⟨⟨_, hf.2.1 0 _ rfl⟩, by have := hf.2.2.2 0 _ rfl; simp at this; exact this.symm⟩
    obtain ⟨bl, vl, h5, h6⟩ := h5'
    obtain ⟨bl', vl', h7, h8⟩ := ih sh.tail (nb + (imp kill nb nr r').2.1.length) (nr + (imp kill nb nr r').2.2.length) m vs' h2 h4 (fun id hid => hk id (.inr hid))
    simp only [impL, appendList_eq, occL]
    refine ⟨bl ++ bl', vl ++ vl', h5.app h7, fun st' e' hf => ?_⟩
    obtain ⟨h9, h10⟩ := h6 st' e' hf.left
    obtain ⟨h11, h12⟩ := h8 st' e' (hf.right h5.lb h5.lr)
    refine ⟨⟨v, vs', rfl, h9, h11⟩, fun i b g vs hi hg hw => ?_⟩
    by_cases hlt : i < (imp kill nb nr r').2.1.length
    · rw [List.getElem?_append_left hlt] at hi
      rw [List.getElem?_append_left (by rw [h5.lb]; exact hlt)] at hg
      exact h10 i b g vs hi hg hw
    · rw [List.getElem?_append_right (Nat.le_of_not_lt hlt)] at hi
      rw [List.getElem?_append_right (by rw [h5.lb]; exact Nat.le_of_not_lt hlt), h5.lb] at hg
      exact h12 _ b g vs hi hg hw

theorem resolve_mono {bs : List (Option Box)} {rs : List (Option Row)} : ∀ n : Nat, (∀ v r, resolveF bs rs n v = some r → resolveF bs rs (n + 1) v = some r) ∧ (∀ l m, resolveFL bs rs n l = some m → resolveFL bs rs (n + 1) l = some m) := by
  intro n
  induction n with
  | zero => exact ⟨fun v r h => by simp [resolveF] at h, fun l m h => by simp [resolveFL] at h⟩
  | succ n ih =>
    obtain ⟨ih1, ih2⟩ := ih
    constructor
    · intro v r h
      cases v with
      | box id off =>
        simp only [resolveF] at h ⊢
        split at h
        · rename_i T cells own hb
          try simp only [hb]
          split at h
          · rename_i l hl
            have := ih2 _ _ hl
            simp only [this]
            exact h
          · cases h
        · cases h
      | fn f l =>
        simp only [resolveF] at h ⊢
        split at h
        · rename_i l hl; have := ih2 _ _ hl; simp only [this]; exact h
        · cases h
      | agg l =>
        simp only [resolveF] at h ⊢
        split at h
        · rename_i l hl; have := ih2 _ _ hl; simp only [this]; exact h
        · cases h
      | tup l =>
        simp only [resolveF] at h ⊢
        split at h
        · rename_i l hl; have := ih2 _ _ hl; simp only [this]; exact h
        · cases h
      | _ => simpa only [resolveF] using h
    · intro l m h
      cases l with
      | nil => simpa only [resolveFL] using h
      | cons x l =>
        obtain ⟨r, m', h1, h2, rfl⟩ := resolveFL_cons h
        have h3 := ih1 _ _ h1
        have h4 := ih2 _ _ h2
        simp only [resolveFL] at h3 h4 ⊢
        simp only [h3, h4]

theorem resolve_le {bs : List (Option Box)} {rs : List (Option Row)} {n m : Nat} (hnm : n ≤ m) {v : AV} {r : RV} (h : resolveF bs rs n v = some r) : resolveF bs rs m v = some r := by
  induction hnm with
  | refl => exact h
  | step _ ih => exact (resolve_mono _).1 _ _ ih

theorem resolves_fuel {st : St} : ∀ {l : List AV} {m : List RV}, resolvesTo st l m → resolveFL st.boxes st.rows (201 + l.length) l = some m := by
  intro l
  induction l with
  | nil => intro m h; cases m with
    | nil => rfl
    | cons _ _ => exact h.elim
  | cons x l ih =>
    intro m h
    cases m with
    | nil => exact h.elim
    | cons y m =>
      have h1 := resolve_le (m := 201 + l.length) (by omega) h.1
      have h2 := ih h.2
      show resolveFL st.boxes st.rows ((201 + l.length) + 1) (x :: l) = _
      simp only [resolveFL, h1, h2]

theorem HeapOK.blkB_mine (hh : HeapOK c e st w) {id g : Nat} (h : blkB e st id = some g) : Mine c e.M g := by
  simp only [blkB] at h
  cases hq : getK none st.boxes id with
  | none => rw [hq] at h; cases h
  | some b =>
    rw [hq] at h
    have h1 := (hh.box id b hq).2
    cases hbo : b.own
    · simp [hbo] at h
    · simp [hbo] at h; rw [hbo] at h1; subst h; exact h1

theorem count_inj {l : List Nat} {x : Nat} (h : l.count x ≤ 1) {i j : Nat} (hi : l[i]? = some x) (hj : l[j]? = some x) : i = j := by
  induction l generalizing i j with
  | nil => simp at hi
  | cons y l ih =>
    cases i with
    | zero =>
      cases j with
      | zero => rfl
      | succ j =>
        simp at hi hj
        subst hi
        have : y ∈ l := List.mem_of_getElem? hj
        have := List.count_pos_iff.2 this
        simp at h; omega
    | succ i =>
      cases j with
      | zero =>
        simp at hi hj
        subst hj
        have : y ∈ l := List.mem_of_getElem? hi
        have := List.count_pos_iff.2 this
        simp at h; omega
      | succ j =>
        simp at hi hj
        have : l.count x ≤ 1 := by
          rw [List.count_cons] at h; omega
        rw [ih this hi hj]

/-- The callee's world, as it begins. -/
theorem inner_ok {kill : List Nat} {bs : List (Option Box)} {rs : List (Option Row)} {bl : List Nat} {vl : List Value} {il : List Nat} {ts : List AV} {e0 : Env} (hh : HeapOK c e st w) (hd : Handed e st w kill bs rs bl vl il) (hil : ∀ id ∈ kill, il.count id ≤ 1)
    (h0 : e0 = ⟨fun i => (bl[i]?).getD 0, fun i => (vl[i]?).getD undef, fun _ => False, [], 0⟩)
    (hc : ∀ (i : Nat) (b : Box) (g : Nat) (vs : List Value), bs[i]? = some (some b) → bl[i]? = some g → w.heap[g]? = some (.cells vs.toArray b.T (0, 0)) → RL ⟨ts, bs, rs, [], []⟩ e0 b.cells vs) :
    HeapOK (inner c e st w kill hh) e0 ⟨ts, bs, rs, [], []⟩ w := by
  have hgb : ∀ id bx, getK none bs id = some bx → bs[id]? = some (some bx) := fun id bx hb => by
    rw [getK_eq] at hb
    cases hq : bs[id]? with
    | none => rw [hq] at hb; cases hb
    | some q => rw [hq] at hb; simp at hb; rw [hb]
  have hgr : ∀ id r, getK none rs id = some r → rs[id]? = some (some r) := fun id r hb => by
    rw [getK_eq] at hb
    cases hq : rs[id]? with
    | none => rw [hq] at hb; cases hb
    | some q => rw [hq] at hb; simp at hb; rw [hb]
  have hB : ∀ i, blkB e0 ⟨ts, bs, rs, [], []⟩ i = none := fun i => by
    simp only [blkB]
    cases hq : getK none bs i with
    | none => rfl
    | some b => simp [(hd.box i b (hgb i b hq)).1]
  have hM : ∀ k, ¬ e0.M k := fun k h => by rw [h0] at h; exact h
  have hR : ∀ i g, blkR e0 ⟨ts, bs, rs, [], []⟩ i = some g → ∃ id, il[i]? = some id ∧ id ∈ kill ∧ blkR e st id = some g := fun i g h => by
    simp only [blkR] at h
    cases hq : getK none rs i with
    | none => rw [hq] at h; cases h
    | some r =>
      rw [hq] at h
      obtain ⟨v, id, h1, h2, h3⟩ := hd.row i r (hgr i r hq)
      cases hro : r.own
      · simp [hro] at h
      · rcases h3 with ⟨_, h4, _, h5⟩ | ⟨h4, _⟩
        · simp only [hro, if_true] at h
          rw [h0] at h
          simp only [h1, Option.getD_some] at h
          exact ⟨id, h2, h4, h5 g h⟩
        · rw [hro] at h4; cases h4
  refine ⟨⟨rfl, rfl, rfl, Nat.le_refl _, fun _ _ _ => rfl⟩, fun i b hb => ?_, fun i r hr => ?_, fun i j g h1 => ?_, fun i j g h1 h2 => ?_, fun i j g h1 => ?_, hM, fun D hD => ?_, fun D hD => ?_, fun k hk => absurd hk (hM k), ?_, by rw [h0]; exact List.nodup_nil, rfl⟩
  · obtain ⟨h1, g, h2, h3, h4, vs, h5, h6⟩ := hd.box i b (hgb i b hb)
    have hβ : e0.β i = g := by rw [h0]; simp [h2]
    refine ⟨⟨vs, by rw [hβ]; exact h5, hc i b g vs (hgb i b hb) h2 h5, h6⟩, ?_⟩
    rw [h1, hβ]
    exact ⟨h3, fun ⟨id, _, hid⟩ => h4 id hid, hM g⟩
  · obtain ⟨v, id, h1, h2, h3⟩ := hd.row i r (hgr i r hr)
    have hρ : e0.ρ i = v := by rw [h0]; simp [h1]
    refine ⟨size_pos _, ?_⟩
    rcases h3 with ⟨h4, h5, h6, h7⟩ | ⟨h4, p, cap, h5, h6, h7, h8⟩
    · rw [h4, hρ]
      exact ⟨h6, fun g hg => ⟨.inr ⟨id, h5, h7 g hg⟩, hM g⟩⟩
    · rw [h4, hρ]
      exact ⟨p, cap, h5, h6, h7, fun j u hj => by obtain ⟨b, h9, h10, h11, h12⟩ := h8 j u hj; exact ⟨b, h9, ⟨h10, h11, hM _⟩, h12⟩⟩
  · rw [hB] at h1; cases h1
  · obtain ⟨id, h3, h4, h5⟩ := hR i g h1
    obtain ⟨id', h6, h7, h8⟩ := hR j g h2
    obtain rfl := hh.injR _ _ _ h5 h8
    exact count_inj (hil id h4) h3 h6
  · rw [hB] at h1; cases h1
  · rw [h0] at hD; cases hD
  · rw [h0] at hD; cases hD
  · rw [h0]; rfl

/- ## What a callee hands back -/
/-- Boxes and rows of a callee's that go over to the caller. -/
structure Outs (e : Env) (st : St) (w : World) (bs : List Box) (rs : List Row) (bl : List Nat) (vl : List Value) (bi ri : List (Option Nat)) : Prop where
  lb : bl.length = bs.length
  lr : vl.length = rs.length
  lbi : bi.length = bs.length
  lri : ri.length = rs.length
  box : ∀ (i : Nat) (b : Box), bs[i]? = some b → b.own = true ∧ ∃ id g, bi[i]? = some (some id) ∧ bl[i]? = some g ∧ blkB e st id = some g ∧ ∃ vs : List Value, w.heap[g]? = some (.cells vs.toArray b.T (0, 0)) ∧ ∀ v ∈ vs, v.oneCell' = true
  row : ∀ (i : Nat) (r : Row), rs[i]? = some r → r.own = true → ∃ v : Value, vl[i]? = some v ∧ Owns w r.T r.k v r.l ∧ ∀ g, v.ownBlock = some g → ∃ id, ri[i]? = some (some id) ∧ blkR e st id = some g

theorem Outs.nil {e : Env} {st : St} {w : World} : Outs e st w [] [] [] [] [] [] := ⟨rfl, rfl, rfl, rfl, fun i b h => by simp at h, fun i b h => by simp at h⟩
theorem Outs.app {e : Env} {st : St} {w : World} {bs bs' : List Box} {rs rs' : List Row} {bl bl' : List Nat} {vl vl' : List Value} {bi bi' ri ri' : List (Option Nat)} (h : Outs e st w bs rs bl vl bi ri) (h' : Outs e st w bs' rs' bl' vl' bi' ri') :
    Outs e st w (bs ++ bs') (rs ++ rs') (bl ++ bl') (vl ++ vl') (bi ++ bi') (ri ++ ri') := by
  refine ⟨by simp [h.lb, h'.lb], by simp [h.lr, h'.lr], by simp [h.lbi, h'.lbi], by simp [h.lri, h'.lri], fun i b hb => ?_, fun i r hr ho => ?_⟩
  · by_cases hi : i < bs.length
    · rw [List.getElem?_append_left hi] at hb
      obtain ⟨h1, id, g, h2, h3, h4⟩ := h.box i b hb
      exact ⟨h1, id, g, by rw [List.getElem?_append_left (by rw [h.lbi]; exact hi)]; exact h2, by rw [List.getElem?_append_left (by rw [h.lb]; exact hi)]; exact h3, h4⟩
    · rw [List.getElem?_append_right (by omega)] at hb
      obtain ⟨h1, id, g, h2, h3, h4⟩ := h'.box _ b hb
      exact ⟨h1, id, g, by rw [List.getElem?_append_right (by rw [h.lbi]; omega), h.lbi]; exact h2, by rw [List.getElem?_append_right (by rw [h.lb]; omega), h.lb]; exact h3, h4⟩
  · by_cases hi : i < rs.length
    · rw [List.getElem?_append_left hi] at hr
      obtain ⟨v, h1, h2, h3⟩ := h.row i r hr ho
      exact ⟨v, by rw [List.getElem?_append_left (by rw [h.lr]; exact hi)]; exact h1, h2, fun g hg => by rw [List.getElem?_append_left (by rw [h.lri]; exact hi)]; exact h3 g hg⟩
    · rw [List.getElem?_append_right (by omega)] at hr
      obtain ⟨v, h1, h2, h3⟩ := h'.row _ r hr ho
      exact ⟨v, by rw [List.getElem?_append_right (by rw [h.lr]; omega), h.lr]; exact h1, h2, fun g hg => by rw [List.getElem?_append_right (by rw [h.lri]; omega), h.lri]; exact h3 g hg⟩

/-- A state and an environment that hold what is handed back. -/
def Fits2 (st : St) (e : Env) (nb nr : Nat) (bs : List Box) (rs : List Row) (bl : List Nat) (vl : List Value) : Prop :=
  (∀ (i : Nat) (b : Box), bs[i]? = some b → getK none st.boxes (nb + i) = some b) ∧ (∀ (i : Nat) (r : Row), rs[i]? = some r → getK none st.rows (nr + i) = some r) ∧
  (∀ (i g : Nat), bl[i]? = some g → e.β (nb + i) = g) ∧ (∀ (i : Nat) (v : Value), vl[i]? = some v → e.ρ (nr + i) = v)
theorem Fits2.left {st : St} {e : Env} {nb nr : Nat} {bs bs' : List Box} {rs rs' : List Row} {bl bl' : List Nat} {vl vl' : List Value} (h : Fits2 st e nb nr (bs ++ bs') (rs ++ rs') (bl ++ bl') (vl ++ vl')) : Fits2 st e nb nr bs rs bl vl := by
  obtain ⟨h1, h2, h3, h4⟩ := h
  have key : ∀ {α : Type} (l m : List α) (i : Nat) (x : α), l[i]? = some x → (l ++ m)[i]? = some x := fun l m i x hx => by
    rw [List.getElem?_append_left (List.getElem?_eq_some_iff.1 hx).1]; exact hx
  exact ⟨fun i b hb => h1 i b (key _ _ _ _ hb), fun i b hb => h2 i b (key _ _ _ _ hb), fun i b hb => h3 i b (key _ _ _ _ hb), fun i b hb => h4 i b (key _ _ _ _ hb)⟩
theorem Fits2.right {st : St} {e : Env} {nb nr : Nat} {bs bs' : List Box} {rs rs' : List Row} {bl bl' : List Nat} {vl vl' : List Value} (hb : bl.length = bs.length) (hr : vl.length = rs.length) (h : Fits2 st e nb nr (bs ++ bs') (rs ++ rs') (bl ++ bl') (vl ++ vl')) :
    Fits2 st e (nb + bs.length) (nr + rs.length) bs' rs' bl' vl' := by
  obtain ⟨h1, h2, h3, h4⟩ := h
  have key : ∀ {α : Type} (l m : List α) (i : Nat) (x : α), m[i]? = some x → (l ++ m)[l.length + i]? = some x := fun l m i x hx => by
    rw [List.getElem?_append_right (by omega)]; simpa using hx
  refine ⟨fun i b hx => ?_, fun i b hx => ?_, fun i b hx => ?_, fun i b hx => ?_⟩
  · have := h1 _ b (key bs bs' i _ hx); rwa [← Nat.add_assoc] at this
  · have := h2 _ b (key rs rs' i _ hx); rwa [← Nat.add_assoc] at this
  · have := h3 _ b (key bl bl' i _ hx); rw [hb] at this; rwa [← Nat.add_assoc] at this
  · have := h4 _ b (key vl vl' i _ hx); rw [hr] at this; rwa [← Nat.add_assoc] at this

theorem Owns.front {T : TypeId} {k : EK} {a : Option Addr} {n cap hi : Nat} {l : List k.ty} (h : Owns w T k (.slice a n cap) l) (hhi : hi ≤ l.length) (hnil : a = none → cap = 0) : Owns w T k (.slice a hi cap) (l.take hi) := by
  rcases h with ⟨h1, h2⟩ | ⟨g, cap', cur, fz, h1, h2, h3, h4, h5, h6, h7⟩
  · simp only [Value.slice.injEq] at h1
    obtain ⟨rfl, rfl, rfl⟩ := h1
    left
    rw [h2] at hhi
    have : hi = 0 := by simpa using hhi
    subst this
    exact ⟨rfl, by simp⟩
  · simp only [Value.slice.injEq] at h1
    obtain ⟨rfl, rfl, rfl⟩ := h1
    right
    have hl : (l.take hi).length = hi := by simp; omega
    refine ⟨g, cap, cur, fz, by rw [hl], h2, h3, by rw [hl]; omega, h5, h6, ?_⟩
    rw [hl, ← valsOf_take, ← h7, List.take_take, Nat.min_eq_left (Nat.mul_le_mul_right _ hhi)]

mutual
theorem out_spec (hh : HeapOK c e st w) (fb fr n : Nat) (x : RT) (v : AV) (y : RV) (u : Value) (hr : resolveF st.boxes st.rows n v = some y) (h : R st e v u) (hc : chk x y) :
    ∃ bl vl, Outs e st w (x.inst fb fr).2.1 (x.inst fb fr).2.2 bl vl (bidsOf x y) (idsOf x y) ∧ ∀ st' e', Fits2 st' e' fb fr (x.inst fb fr).2.1 (x.inst fb fr).2.2 bl vl →
      R st' e' (x.inst fb fr).1 u ∧ ∀ (i : Nat) (b : Box) (g : Nat) (vs : List Value), (x.inst fb fr).2.1[i]? = some b → bl[i]? = some g → w.heap[g]? = some (.cells vs.toArray b.T (0, 0)) → RL st' e' b.cells vs := by
  cases n with
  | zero => simp [resolveF] at hr
  | succ n =>
  cases x with
  | a v' =>
    cases y <;> simp only [chk] at hc
    subst hc
    obtain ⟨rfl, h2⟩ := res_a_same hr
    refine ⟨[], [], ?_, fun st' e' _ => ⟨h2 _ _ _ _ _ h, fun i b g vs hi => by simp [RT.inst] at hi⟩⟩
    simp only [RT.inst, bidsOf, idsOf]; exact Outs.nil
  | row r =>
    have one : ∀ (ri : List (Option Nat)), ri.length = 1 → (r.own = true → Owns w r.T r.k u r.l ∧ ∀ g, u.ownBlock = some g → ∃ id, ri[0]? = some (some id) ∧ blkR e st id = some g) →
        ∃ bl vl, Outs e st w [] [r] bl vl [] ri ∧ ∀ st' e', Fits2 st' e' fb fr [] [r] bl vl → R st' e' (.row fr) u ∧ ∀ (i : Nat) (b : Box) (g : Nat) (vs : List Value), ([] : List Box)[i]? = some b → bl[i]? = some g → w.heap[g]? = some (.cells vs.toArray b.T (0, 0)) → RL st' e' b.cells vs := by
      intro ri hri hro
      refine ⟨[], [u], ⟨rfl, rfl, rfl, hri, fun i b hi => by simp at hi, fun i q hi ho => ?_⟩, fun st' e' hf => ⟨⟨⟨_, hf.2.1 0 _ rfl⟩, by have := hf.2.2.2 0 _ rfl; simp at this; exact this.symm⟩, fun i b g vs hi => by simp at hi⟩⟩
      cases i with
      | zero => simp at hi; subst hi; exact ⟨u, rfl, hro ho⟩
      | succ i => simp at hi
    cases y with
    | row id r' =>
      simp only [chk] at hc
      subst hc
      simp only [RT.inst, bidsOf, idsOf]
      refine one _ rfl (fun ho => ?_)
      cases v <;> simp only [resolveF] at hr <;> (try (repeat' (split at hr))) <;> (try (cases hr; done))
      rename_i hid
      cases hr
      obtain ⟨_, rfl⟩ := h
      have h4 := (hh.row id r' hid).2
      rw [ho] at h4
      exact ⟨h4.1, fun g hg => ⟨id, rfl, by simp [blkR, hid, ho, hg]⟩⟩
    | view id lo hi ex r' =>
      simp only [chk] at hc
      obtain ⟨rfl, hhi, rfl, rfl⟩ := hc
      simp only [RT.inst, bidsOf, idsOf]
      refine one _ rfl (fun ho => ?_)
      cases v <;> simp only [resolveF] at hr <;> (try (repeat' (split at hr))) <;> (try (cases hr; done))
      rename_i hid
      cases hr
      obtain ⟨r2, hr2, h3, h4, p, m, cc, p', c', hρ, rfl, h7, h8, h9, h10⟩ := h
      rw [hid] at hr2; cases hr2
      obtain ⟨rfl, rfl⟩ := h8 rfl rfl
      simp only at ho
      have h4' := (hh.row id r' hid).2
      rw [ho] at h4'
      refine ⟨?_, fun g hg => ⟨id, rfl, ?_⟩⟩
      · have := h4'.1
        rw [hρ] at this
        simpa using this.front hhi h9
      · simp only [blkR, hid, ho, if_true, hρ]
        cases p' <;> exact hg
    | a v' =>
      cases v' <;> simp only [chk] at hc
      obtain ⟨rfl, h2⟩ := res_a_same hr
      have hu : u = .slice none 0 0 := h
      subst hu
      simp only [RT.inst, bidsOf, idsOf]
      refine one _ rfl (fun ho => ⟨.inl ⟨rfl, hc.1⟩, fun g hg => by simp [Value.ownBlock] at hg⟩)
    | _ => simp only [chk] at hc
  | box T l =>
    cases y <;> simp only [chk] at hc
    rename_i id off T' own m
    obtain ⟨rfl, rfl, rfl, hc⟩ := hc
    cases v <;> simp only [resolveF] at hr <;> (try (repeat' (split at hr))) <;> (try (cases hr; done))
    rename_i id' off' _ T2 cells own' hb _ m' hm
    cases hr
    obtain ⟨_, rfl⟩ := h
    obtain ⟨⟨vs, h1, h2, h3⟩, h4⟩ := hh.box id _ hb
    obtain ⟨bl, vl, h5, h6⟩ := outL_spec hh (fb + 1) fr n l cells m vs hm h2 hc
    simp only [RT.inst, bidsOf, idsOf]
    refine ⟨e.β id :: bl, vl, ?_, fun st' e' hf => ?_⟩
    · have h7 : Outs e st w [⟨T, (RT.instL (fb + 1) fr l).1, true⟩] [] [e.β id] [] [some id] [] := by
        refine ⟨rfl, rfl, rfl, rfl, fun i b hi => ?_, fun i r hi => by simp at hi⟩
        cases i with
        | zero =>
          simp at hi; subst hi
          exact ⟨rfl, id, _, rfl, rfl, by simp [blkB, hb], vs, h1, h3⟩
        | succ i => simp at hi
      exact h7.app h5
    · have hf' : Fits2 st' e' (fb + 1) fr (RT.instL (fb + 1) fr l).2.1 (RT.instL (fb + 1) fr l).2.2 bl vl := by
        have : Fits2 st' e' fb fr ([⟨T, (RT.instL (fb + 1) fr l).1, true⟩] ++ (RT.instL (fb + 1) fr l).2.1) ([] ++ (RT.instL (fb + 1) fr l).2.2) ([e.β id] ++ bl) ([] ++ vl) := hf
        exact Fits2.right (bl := [e.β id]) (vl := []) (rs := []) rfl rfl this
      obtain ⟨h8, h9⟩ := h6 st' e' hf'
      refine ⟨⟨⟨_, hf.1 0 _ rfl⟩, by have := hf.2.2.1 0 _ rfl; simp at this; simp [this]⟩, fun i b g vs' hi hg hw => ?_⟩
      cases i with
      | zero =>
        simp at hi hg
        subst hi; subst hg
        rw [h1] at hw
        simp only [Option.some.injEq, Obj.cells.injEq] at hw
        have : vs = vs' := by simpa using hw.1
        subst this
        exact h8
      | succ i => exact h9 i b g vs' (by simpa using hi) (by simpa using hg) hw
  | fn f l =>
    cases y <;> simp only [chk] at hc
    rename_i g m
    obtain ⟨rfl, hc⟩ := hc
    cases v <;> simp only [resolveF] at hr <;> (try (repeat' (split at hr))) <;> (try (cases hr; done))
    rename_i hm
    cases hr
    obtain ⟨vs, rfl, h2⟩ := h
    obtain ⟨bl, vl, h5, h6⟩ := outL_spec hh fb fr n l _ m vs hm h2 hc
    exact ⟨bl, vl, h5, fun st' e' hf => ⟨⟨vs, rfl, (h6 st' e' hf).1⟩, (h6 st' e' hf).2⟩⟩
  | agg l =>
    cases y <;> simp only [chk] at hc
    rename_i m
    cases v <;> simp only [resolveF] at hr <;> (try (repeat' (split at hr))) <;> (try (cases hr; done))
    rename_i hm
    cases hr
    obtain ⟨vs, rfl, h2⟩ := h
    obtain ⟨bl, vl, h5, h6⟩ := outL_spec hh fb fr n l _ m vs hm h2 hc
    exact ⟨bl, vl, h5, fun st' e' hf => ⟨⟨vs, rfl, (h6 st' e' hf).1⟩, (h6 st' e' hf).2⟩⟩
  | tup l =>
    cases y <;> simp only [chk] at hc
    rename_i m
    cases v <;> simp only [resolveF] at hr <;> (try (repeat' (split at hr))) <;> (try (cases hr; done))
    rename_i hm
    cases hr
    obtain ⟨vs, rfl, h2⟩ := h
    obtain ⟨bl, vl, h5, h6⟩ := outL_spec hh fb fr n l _ m vs hm h2 hc
    exact ⟨bl, vl, h5, fun st' e' hf => ⟨⟨vs, rfl, (h6 st' e' hf).1⟩, (h6 st' e' hf).2⟩⟩
  termination_by n
theorem outL_spec (hh : HeapOK c e st w) (fb fr n : Nat) (xs : List RT) (l : List AV) (ys : List RV) (us : List Value) (hr : resolveFL st.boxes st.rows n l = some ys) (h : RL st e l us) (hc : chkL xs ys) :
    ∃ bl vl, Outs e st w (RT.instL fb fr xs).2.1 (RT.instL fb fr xs).2.2 bl vl (bidsL xs ys) (idsL xs ys) ∧ ∀ st' e', Fits2 st' e' fb fr (RT.instL fb fr xs).2.1 (RT.instL fb fr xs).2.2 bl vl →
      RL st' e' (RT.instL fb fr xs).1 us ∧ ∀ (i : Nat) (b : Box) (g : Nat) (vs : List Value), (RT.instL fb fr xs).2.1[i]? = some b → bl[i]? = some g → w.heap[g]? = some (.cells vs.toArray b.T (0, 0)) → RL st' e' b.cells vs := by
  cases n with
  | zero => simp [resolveFL] at hr
  | succ n =>
  cases xs with
  | nil =>
    cases ys with
    | nil =>
      cases l with
      | nil =>
        refine ⟨[], [], ?_, fun st' e' _ => ⟨h, fun i b g vs hi => by simp [RT.instL] at hi⟩⟩
        simp only [RT.instL, bidsL, idsL]; exact Outs.nil
      | cons v l => obtain ⟨r, m, h1, h2, h3⟩ := resolveFL_cons hr; cases h3
    | cons y ys => exact hc.elim
  | cons x xs =>
    cases ys with
    | nil => exact hc.elim
    | cons y ys =>
      obtain ⟨hc1, hc2⟩ := hc
      cases l with
      | nil => have := resolveFL_nil hr; cases this
      | cons v l =>
        obtain ⟨r, m, h1, h2, h3⟩ := resolveFL_cons hr
        cases h3
        obtain ⟨u, us', rfl, h3, h4⟩ := h
        obtain ⟨bl, vl, h5, h6⟩ := out_spec hh fb fr n x v y u h1 h3 hc1
        obtain ⟨bl', vl', h7, h8⟩ := outL_spec hh (fb + (x.inst fb fr).2.1.length) (fr + (x.inst fb fr).2.2.length) n xs l ys us' h2 h4 hc2
        simp only [RT.instL, appendList_eq, bidsL, idsL]
        refine ⟨bl ++ bl', vl ++ vl', h5.app h7, fun st' e' hf => ?_⟩
        obtain ⟨h9, h10⟩ := h6 st' e' hf.left
        obtain ⟨h11, h12⟩ := h8 st' e' (hf.right h5.lb h5.lr)
        refine ⟨⟨u, us', rfl, h9, h11⟩, fun i b g vs hi hg hw => ?_⟩
        by_cases hlt : i < (x.inst fb fr).2.1.length
        · rw [List.getElem?_append_left hlt] at hi
          rw [List.getElem?_append_left (by rw [h5.lb]; exact hlt)] at hg
          exact h10 i b g vs hi hg hw
        · rw [List.getElem?_append_right (Nat.le_of_not_lt hlt)] at hi
          rw [List.getElem?_append_right (by rw [h5.lb]; exact Nat.le_of_not_lt hlt), h5.lb] at hg
          exact h12 _ b g vs hi hg hw
  termination_by n
end

/-- The blocks that are new to the caller, or that were given away. -/
structure Back (c : Ctx) (e : Env) (st : St) (w w1 : World) (kill : List Nat) : Prop where
  os : w1.os = w.os
  tape : w1.tape = w.tape
  output : w1.output = w.output
  size : w.heap.size ≤ w1.heap.size
  block : ∀ k, k < w.heap.size → ¬ killBlk e st kill k → w1.heap[k]? = w.heap[k]?

theorem Back.mine {kill : List Nat} (hh : HeapOK c e st w) {g : Nat} (hg : w.heap.size ≤ g ∨ killBlk e st kill g) : Mine c e.M g := by
  rcases hg with hg | ⟨id, _, h⟩
  · exact hh.new_m hg
  · exact (hh.blkR_mine h).1

theorem getK_killOne (l : List (Option Row)) (n i : Nat) : getK none (killOne l n) i = if i = n then none else getK none l i := by
  induction l generalizing n i with
  | nil => simp [killOne, getK]
  | cons x l ih =>
    cases n with
    | zero => cases i <;> simp [killOne, getK]
    | succ n => cases i with
      | zero => simp [killOne, getK]
      | succ i => simp [killOne, getK, ih]
theorem getK_killAll (l : List (Option Row)) (ns : List Nat) (i : Nat) : getK none (killAll l ns) i = if i ∈ ns then none else getK none l i := by
  induction ns generalizing l with
  | nil => simp [killAll]
  | cons n ns ih =>
    simp only [killAll, ih, getK_killOne, List.mem_cons]
    by_cases h1 : i ∈ ns <;> by_cases h2 : i = n <;> simp [h1, h2]

mutual
theorem inst_own (x : RT) (fb fr : Nat) (h : x.own = true) : ∀ (i : Nat) (r : Row), (x.inst fb fr).2.2[i]? = some r → r.own = true := by
  match x with
  | .a v => intro i r hi; simp [RT.inst] at hi
  | .row q =>
    intro i r hi
    cases i with
    | zero => simp [RT.inst] at hi; subst hi; exact h
    | succ i => simp [RT.inst] at hi
  | .box T l => exact instL_own l (fb + 1) fr h
  | .fn f l => exact instL_own l fb fr h
  | .agg l => exact instL_own l fb fr h
  | .tup l => exact instL_own l fb fr h
theorem instL_own (l : List RT) (fb fr : Nat) (h : RT.ownL l = true) : ∀ (i : Nat) (r : Row), (RT.instL fb fr l).2.2[i]? = some r → r.own = true := by
  match l with
  | [] => intro i r hi; simp [RT.instL] at hi
  | x :: l =>
    simp only [RT.ownL, Bool.and_eq_true] at h
    intro i r hi
    simp only [RT.instL, appendList_eq] at hi
    by_cases hlt : i < (x.inst fb fr).2.2.length
    · rw [List.getElem?_append_left hlt] at hi
      exact inst_own x fb fr h.1 i r hi
    · rw [List.getElem?_append_right (Nat.le_of_not_lt hlt)] at hi
      exact instL_own l _ _ h.2 _ r hi
end

theorem back_fits {kill : List Nat} {fb fr : Nat} {bs : List Box} {rs : List Row} {bl : List Nat} {vl : List Value} {bi ri : List (Option Nat)} {st1 : St} {e1 : Env} {w1 : World} {e' : Env} {st' : St}
    (ho : Outs e1 st1 w1 bs rs bl vl bi ri) (hst : st' = Eff.apply fb fr st (.call bs rs kill []))
    (he : e' = ⟨fun i => if fb ≤ i ∧ i < fb + bs.length then (bl[i - fb]?).getD 0 else e.β i, fun i => if fr ≤ i ∧ i < fr + rs.length then (vl[i - fr]?).getD undef else e.ρ i, e.M, e.D, e.l⟩) : Fits2 st' e' fb fr bs rs bl vl := by
  have hrows : ∀ i, fr ≤ i ∧ i < fr + rs.length → getK none st'.rows i = rs[i - fr]? := fun i hi => by
    rw [hst]
    cases kill with
    | nil => simp only [Eff.apply, getK_overL]; rw [if_pos hi]
    | cons n ns => simp only [Eff.apply, getK_overL]; rw [if_pos hi]
  have hboxes : ∀ i, fb ≤ i ∧ i < fb + bs.length → getK none st'.boxes i = bs[i - fb]? := fun i hi => by
    rw [hst]
    cases kill with
    | nil => simp only [Eff.apply, getK_overL]; rw [if_pos hi]
    | cons n ns => simp only [Eff.apply, getK_overL]; rw [if_pos hi]
  refine ⟨fun i b hi => ?_, fun i r hi => ?_, fun i g hi => ?_, fun i v hi => ?_⟩
  · have hlt := (List.getElem?_eq_some_iff.1 hi).1
    rw [hboxes _ (by omega), Nat.add_sub_cancel_left]; exact hi
  · have hlt := (List.getElem?_eq_some_iff.1 hi).1
    rw [hrows _ (by omega), Nat.add_sub_cancel_left]; exact hi
  · have hlt := (List.getElem?_eq_some_iff.1 hi).1
    rw [ho.lb] at hlt
    rw [he]
    simp only
    rw [if_pos (by omega), Nat.add_sub_cancel_left, hi]; rfl
  · have hlt := (List.getElem?_eq_some_iff.1 hi).1
    rw [ho.lr] at hlt
    rw [he]
    simp only
    rw [if_pos (by omega), Nat.add_sub_cancel_left, hi]; rfl

theorem nodup_inj {l : List (Option Nat)} (h : nodupB l = true) : ∀ (i j x : Nat), l[i]? = some (some x) → l[j]? = some (some x) → i = j := by
  induction l with
  | nil => intro i j x hi; simp at hi
  | cons y l ih =>
    intro i j x hi hj
    cases y with
    | none =>
      simp only [nodupB] at h
      cases i with
      | zero => simp at hi
      | succ i => cases j with
        | zero => simp at hj
        | succ j => rw [ih h i j x (by simpa using hi) (by simpa using hj)]
    | some y =>
      simp only [nodupB, Bool.and_eq_true, Bool.not_eq_true', List.contains_eq_mem, decide_eq_false_iff_not] at h
      cases i with
      | zero =>
        cases j with
        | zero => rfl
        | succ j =>
          simp at hi hj
          subst hi
          exact absurd (List.mem_of_getElem? hj) h.1
      | succ i =>
        cases j with
        | zero =>
          simp at hi hj
          subst hj
          exact absurd (List.mem_of_getElem? hi) h.1
        | succ j => rw [ih h.2 i j x (by simpa using hi) (by simpa using hj)]

/-- The caller's state behind a call. -/
theorem back_ok {w1 : World} {kill : List Nat} {fb fr : Nat} {bs : List Box} {rs : List Row} {bl : List Nat} {vl : List Value} {bi ri : List (Option Nat)} {st1 : St} {e1 : Env} {e' : Env} {st' : St} (hh : HeapOK c e st w) (hb : Back c e st w w1 kill)
    (ho : Outs e1 st1 w1 bs rs bl vl bi ri) (hown : ∀ (i : Nat) (r : Row), rs[i]? = some r → r.own = true) (hnb : nodupB bi = true) (hnr : nodupB ri = true)
    (hB1 : ∀ id g, blkB e1 st1 id = some g → w.heap.size ≤ g ∨ killBlk e st kill g) (hR1 : ∀ id g, blkR e1 st1 id = some g → w.heap.size ≤ g ∨ killBlk e st kill g)
    (hI1 : ∀ i j g, blkB e1 st1 i = some g → blkB e1 st1 j = some g → i = j) (hI2 : ∀ i j g, blkR e1 st1 i = some g → blkR e1 st1 j = some g → i = j) (hI3 : ∀ i j g, blkB e1 st1 i = some g → blkR e1 st1 j ≠ some g)
    (hfb : ∀ j, fb ≤ j → j < fb + bs.length → getK none st.boxes j = none) (hfr : ∀ j, fr ≤ j → j < fr + rs.length → getK none st.rows j = none)
    (hst : st' = Eff.apply fb fr st (.call bs rs kill []))
    (he : e' = ⟨fun i => if fb ≤ i ∧ i < fb + bs.length then (bl[i - fb]?).getD 0 else e.β i, fun i => if fr ≤ i ∧ i < fr + rs.length then (vl[i - fr]?).getD undef else e.ρ i, e.M, e.D, e.l⟩)
    (hcells : ∀ (i : Nat) (b : Box) (g : Nat) (vs : List Value), bs[i]? = some b → bl[i]? = some g → w1.heap[g]? = some (.cells vs.toArray b.T (0, 0)) → RL st' e' b.cells vs) :
    HeapOK c e' st' w1 ∧ Pres st e st' e' kill ∧ Fits2 st' e' fb fr bs rs bl vl := by
  -- the state, place by place
  have hrows : ∀ i, getK none st'.rows i = if fr ≤ i ∧ i < fr + rs.length then rs[i - fr]? else if i ∈ kill then none else getK none st.rows i := fun i => by
    rw [hst]
    cases kill with
    | nil => simp only [Eff.apply, setAllR, getK_overL]; simp
    | cons n ns => simp only [Eff.apply, setAllR, getK_overL, getK_killAll]
  have hboxes : ∀ i, getK none st'.boxes i = if fb ≤ i ∧ i < fb + bs.length then bs[i - fb]? else sweepBox kill (getK none st.boxes i) := fun i => by
    have hnil : ∀ b : Option Box, sweepBox [] b = b := fun b => by
      cases b with
      | none => rfl
      | some b => simp [sweepBox, mapK_sweep_nil]
    rw [hst]
    cases kill with
    | nil => simp only [Eff.apply, getK_overL, hnil]
    | cons n ns => simp only [Eff.apply, getK_overL]; rw [getK_mapK (sweepBox (n :: ns)) none none rfl]
  have hpin : st'.pin = mapK (sweep kill) st.pin := by
    rw [hst]
    cases kill with
    | nil => simp only [Eff.apply, mapK_sweep_nil]
    | cons n ns => rfl
  have hys : st'.ys = st.ys := by rw [hst]; cases kill <;> rfl
  have heM : e'.M = e.M := by rw [he]
  have heD : e'.D = e.D := by rw [he]
  have hel : e'.l = e.l := by rw [he]
  have hβn : ∀ i, fb ≤ i → i < fb + bs.length → e'.β i = (bl[i - fb]?).getD 0 := fun i h1 h2 => by rw [he]; exact if_pos ⟨h1, h2⟩
  have hβo : ∀ i, ¬ (fb ≤ i ∧ i < fb + bs.length) → e'.β i = e.β i := fun i h => by rw [he]; exact if_neg h
  have hρn : ∀ i, fr ≤ i → i < fr + rs.length → e'.ρ i = (vl[i - fr]?).getD undef := fun i h1 h2 => by rw [he]; exact if_pos ⟨h1, h2⟩
  have hρo : ∀ i, ¬ (fr ≤ i ∧ i < fr + rs.length) → e'.ρ i = e.ρ i := fun i h => by rw [he]; exact if_neg h
  have hp : Pres st e st' e' kill := by
    refine pres_of hel heD (fun i b hi => ?_) (fun i q hk hq => ?_)
    · have hne : ¬ (fb ≤ i ∧ i < fb + bs.length) := fun h => by rw [hfb i h.1 h.2] at hi; cases hi
      rw [hboxes, if_neg hne, hi]
      exact ⟨⟨_, rfl⟩, hβo i hne⟩
    · have hne : ¬ (fr ≤ i ∧ i < fr + rs.length) := fun h => by rw [hfr i h.1 h.2] at hq; cases hq
      refine ⟨⟨q, by rw [hrows, if_neg hne, if_neg hk]; exact hq, rfl, Nat.le_refl _⟩, hρo i hne⟩
  have hmine : ∀ g, (w.heap.size ≤ g ∨ killBlk e st kill g) → Mine c e'.M g := fun g hg => by rw [heM]; exact Back.mine hh hg
  -- what the blocks of the new state are
  have hBB : ∀ i g, blkB e' st' i = some g → (∃ j id, i = fb + j ∧ bi[j]? = some (some id) ∧ blkB e1 st1 id = some g) ∨ (¬ (fb ≤ i ∧ i < fb + bs.length) ∧ blkB e st i = some g) := by
    intro i g h
    simp only [blkB, hboxes] at h
    by_cases hi : fb ≤ i ∧ i < fb + bs.length
    · left
      rw [if_pos hi] at h
      have hb' : bs[i - fb]? = some bs[i - fb] := List.getElem?_eq_getElem (by omega)
      obtain ⟨h1, id, g', h2, h3, h4, _⟩ := ho.box _ _ hb'
      rw [hb'] at h
      simp only [h1, if_true] at h
      rw [hβn i hi.1 hi.2, h3] at h
      simp at h; subst h
      exact ⟨i - fb, id, by omega, h2, h4⟩
    · right
      rw [if_neg hi] at h
      refine ⟨hi, ?_⟩
      simp only [blkB]
      cases hq : getK none st.boxes i with
      | none => rw [hq] at h; simp [sweepBox] at h
      | some b => rw [hq] at h; simp only [sweepBox] at h; rw [hβo i hi] at h; exact h
  have hRR : ∀ i g, blkR e' st' i = some g → (∃ j id, i = fr + j ∧ ri[j]? = some (some id) ∧ blkR e1 st1 id = some g) ∨ (¬ (fr ≤ i ∧ i < fr + rs.length) ∧ i ∉ kill ∧ blkR e st i = some g) := by
    intro i g h
    simp only [blkR, hrows] at h
    by_cases hi : fr ≤ i ∧ i < fr + rs.length
    · left
      rw [if_pos hi] at h
      have hb' : rs[i - fr]? = some rs[i - fr] := List.getElem?_eq_getElem (by omega)
      have h1 := hown _ _ hb'
      obtain ⟨v, h2, h3, h4⟩ := ho.row _ _ hb' h1
      rw [hb'] at h
      simp only [h1, if_true] at h
      rw [hρn i hi.1 hi.2, h2] at h
      obtain ⟨id, h5, h6⟩ := h4 g (by simpa using h)
      exact ⟨i - fr, id, by omega, h5, h6⟩
    · right
      rw [if_neg hi] at h
      by_cases hk : i ∈ kill
      · rw [if_pos hk] at h; cases h
      · rw [if_neg hk] at h
        refine ⟨hi, hk, ?_⟩
        simp only [blkR]
        rw [hρo i hi] at h
        exact h
  -- an elder thing's block is none of those
  have hold : ∀ i g, blkB e st i = some g → ¬ (w.heap.size ≤ g ∨ killBlk e st kill g) := by
    intro i g h h'
    rcases h' with h' | ⟨id, _, h'⟩
    · simp only [blkB] at h
      cases hq : getK none st.boxes i with
      | none => rw [hq] at h; cases h
      | some b =>
        rw [hq] at h
        have := hh.box_lt hq
        cases hbo : b.own
        · simp [hbo] at h
        · simp [hbo] at h; omega
    · exact hh.apart _ _ _ h h'
  have holdR : ∀ i g, i ∉ kill → blkR e st i = some g → ¬ (w.heap.size ≤ g ∨ killBlk e st kill g) := by
    intro i g hk h h'
    rcases h' with h' | ⟨id, hid, h'⟩
    · have := (hh.blkR_mine h).2; omega
    · exact hk (hh.injR _ _ _ h' h ▸ hid)
  have hkeep : ∀ g, g < w.heap.size → ¬ (w.heap.size ≤ g ∨ killBlk e st kill g) → w1.heap[g]? = w.heap[g]? := fun g h1 h2 => hb.block g h1 (fun h => h2 (.inr h))
  refine ⟨⟨⟨hb.os.trans hh.frame.os, hb.tape.trans hh.frame.tape, hb.output.trans hh.frame.output, Nat.le_trans hh.frame.size hb.size, fun k h1 h2 => ?_⟩, fun i b hi => ?_, fun i q hq => ?_, ?_, ?_, ?_, ?_, fun D hD => ?_, fun D hD => ?_, fun k hk => hh.mwr k (by rw [← heM]; exact hk), by rw [hel]; exact hh.yl, by rw [heD]; exact hh.nd, ?_⟩, hp, ?_⟩
  · rw [hb.block k (by have := hh.base_le; omega) (fun ⟨id, _, h⟩ => fixed_ne ⟨h1, h2, (hh.blkR_mine h).1.2⟩ (hh.blkR_mine h).1)]
    exact hh.frame.block k h1 h2
  · rw [hboxes] at hi
    by_cases hin : fb ≤ i ∧ i < fb + bs.length
    · rw [if_pos hin] at hi
      obtain ⟨h1, id, g, h2, h3, h4, vs, h5, h6⟩ := ho.box _ _ hi
      have hβ : e'.β i = g := by rw [hβn i hin.1 hin.2, h3]; rfl
      refine ⟨⟨vs, by rw [hβ]; exact h5, hcells _ _ _ _ hi h3 h5, h6⟩, ?_⟩
      rw [h1, hβ]
      exact hmine g (hB1 _ _ h4)
    · rw [if_neg hin] at hi
      cases hq : getK none st.boxes i with
      | none => rw [hq] at hi; simp [sweepBox] at hi
      | some b0 =>
        rw [hq] at hi
        simp only [sweepBox, Option.some.injEq] at hi
        subst hi
        obtain ⟨⟨vs, h3, h4, h5⟩, h6⟩ := hh.box i b0 hq
        unfold BoxOK
        rw [hβo i hin]
        refine ⟨⟨vs, ?_, RL_mono hp.keep h4, h5⟩, ?_⟩
        · rw [← h3]
          refine hkeep _ (hh.box_lt hq) ?_
          cases hbo : b0.own
          · rw [hbo] at h6
            intro h'
            exact fixed_ne h6 (Back.mine hh h')
          · exact hold i _ (by simp [blkB, hq, hbo])
        · rw [heM]; exact h6
  · rw [hrows] at hq
    by_cases hin : fr ≤ i ∧ i < fr + rs.length
    · rw [if_pos hin] at hq
      have h1 := hown _ _ hq
      obtain ⟨v, h2, h3, h4⟩ := ho.row _ _ hq h1
      have hρ : e'.ρ i = v := by rw [hρn i hin.1 hin.2, h2]; rfl
      refine ⟨size_pos _, ?_⟩
      rw [h1, hρ]
      refine ⟨h3, fun g hg => ?_⟩
      obtain ⟨id, _, h6⟩ := h4 g hg
      exact hmine g (hR1 _ _ h6)
    · rw [if_neg hin] at hq
      by_cases hk : i ∈ kill
      · rw [if_pos hk] at hq; cases hq
      · rw [if_neg hk] at hq
        obtain ⟨h3, h4⟩ := hh.row i q hq
        refine ⟨h3, ?_⟩
        rw [hρo i hin]
        cases hro : q.own
        · rw [hro] at h4; rw [heM]; exact h4
        · rw [hro] at h4
          rw [heM]
          exact ⟨h4.1.same (fun g hg hlt => hkeep g hlt (holdR i g hk (by simp [blkR, hq, hro, hg]))), h4.2⟩
  · intro i j g h1 h2
    rcases hBB i g h1 with ⟨a, id, rfl, h3, h4⟩ | ⟨h3, h4⟩ <;> rcases hBB j g h2 with ⟨b, id', rfl, h5, h6⟩ | ⟨h5, h6⟩
    · obtain rfl := hI1 _ _ _ h4 h6
      rw [nodup_inj hnb _ _ _ h3 h5]
    · exact absurd (hB1 _ _ h4) (hold _ _ h6)
    · exact absurd (hB1 _ _ h6) (hold _ _ h4)
    · exact hh.injB _ _ _ h4 h6
  · intro i j g h1 h2
    rcases hRR i g h1 with ⟨a, id, rfl, h3, h4⟩ | ⟨h3, hk, h4⟩ <;> rcases hRR j g h2 with ⟨b, id', rfl, h5, h6⟩ | ⟨h5, hk', h6⟩
    · obtain rfl := hI2 _ _ _ h4 h6
      rw [nodup_inj hnr _ _ _ h3 h5]
    · exact absurd (hR1 _ _ h4) (holdR _ _ hk' h6)
    · exact absurd (hR1 _ _ h6) (holdR _ _ hk h4)
    · exact hh.injR _ _ _ h4 h6
  · intro i j g h1 h2
    rcases hBB i g h1 with ⟨a, id, rfl, h3, h4⟩ | ⟨h3, h4⟩ <;> rcases hRR j g h2 with ⟨b, id', rfl, h5, h6⟩ | ⟨h5, hk', h6⟩
    · exact hI3 _ _ _ h4 h6
    · exact absurd (hB1 _ _ h4) (holdR _ _ hk' h6)
    · exact absurd (hR1 _ _ h6) (hold _ _ h4)
    · exact hh.apart _ _ _ h4 h6
  · rw [hys, heM]
    exact c.Jst _ _ _ _ hh.out hb.os hb.tape hb.output hb.size fun k hk => hb.block k (hh.m_lt hk) (fun ⟨id, _, h⟩ => (hh.blkR_mine h).1.2 hk)
  · rw [heD] at hD
    rw [hb.block D (lt_of_heap (hh.defd D hD)) (fun ⟨id, _, h⟩ => by obtain ⟨cs, T, fz, h1⟩ := hh.blkR_cells h; rw [hh.defd D hD] at h1; cases h1)]
    exact hh.defd D hD
  · rw [heD] at hD; rw [heM]; exact hh.defm D hD
  · rw [hpin]; exact RL_mono hp.keep hh.pin
  · refine ⟨fun i b hi => ?_, fun i r hi => ?_, fun i g hi => ?_, fun i v hi => ?_⟩
    · have hlt := (List.getElem?_eq_some_iff.1 hi).1
      rw [hboxes, if_pos (by omega), Nat.add_sub_cancel_left]; exact hi
    · have hlt := (List.getElem?_eq_some_iff.1 hi).1
      rw [hrows, if_pos (by omega), Nat.add_sub_cancel_left]; exact hi
    · have hlt := (List.getElem?_eq_some_iff.1 hi).1
      rw [ho.lb] at hlt
      rw [hβn _ (by omega) (by omega), Nat.add_sub_cancel_left, hi]; rfl
    · have hlt := (List.getElem?_eq_some_iff.1 hi).1
      rw [ho.lr] at hlt
      rw [hρn _ (by omega) (by omega), Nat.add_sub_cancel_left, hi]; rfl
end

/- ## Bodies -/
def resF (tmps : Array Value) : ResultVar → Sem Value
  | .tmp t => pure (tmps.getD t undef)
  | .cell a t => do loadVar t (← asAddr (tmps.getD a undef))
theorem results_eq (fn : Func) (tmps : Array Value) : results fn tmps = (do let vs ← fn.results.mapM (resF tmps); pure (if h : vs.size = 1 then vs[0] else .tuple vs)) := rfl

section
variable {P : Program} {G : Nat → World → Prop} {TT : TypeId → Option TD} {C : Nat → Option Con} {Y : List (List AV) → List AV → Option (Prop × Bool)}

theorem R_D {st : St} {e : Env} {Ds : List Nat} (v : AV) (x : Value) (h : R st e v x) : R st ⟨e.β, e.ρ, e.M, Ds, e.l⟩ v x :=
  keep_R (st := st) (e := e) (st' := st) (e' := ⟨e.β, e.ρ, e.M, Ds, e.l⟩) (ids := []) rfl (fun i b hi => ⟨⟨b, hi⟩, rfl⟩) (fun i q _ hq => ⟨⟨q, hq, rfl, Nat.le_refl _⟩, rfl⟩) v x (hits_nil v) h
theorem RL_D {st : St} {e : Env} {Ds : List Nat} {l : List AV} {vs : List Value} (h : RL st e l vs) : RL st ⟨e.β, e.ρ, e.M, Ds, e.l⟩ l vs := by
  induction l generalizing vs with
  | nil => exact h
  | cons x l ih => obtain ⟨v, vs', h1, h2, h3⟩ := h; exact ⟨v, vs', h1, R_D _ _ h2, ih h3⟩

theorem HeapOK.taken {c : Ctx} {st : St} {e : Env} {w w' : World} {d : Nat} {Ds : List Nat} (hh : HeapOK c e st w) (hD : e.D = d :: Ds) (ht : Turns w w' d) : HeapOK c ⟨e.β, e.ρ, e.M, Ds, e.l⟩ st w' := by
  have hd := hh.defd d (by rw [hD]; simp)
  have hm := hh.defm d (by rw [hD]; simp)
  have hnd := hh.nd
  rw [hD] at hnd
  have hne : ∀ g cs T fz, w.heap[g]? = some (.cells cs T fz) → g ≠ d := fun g cs T fz h heq => by rw [heq, hd] at h; cases h
  have hmine : Mine c e.M d := ⟨.inl hm.2, hm.1⟩
  refine ⟨ht.frame hmine hh.frame, fun i b hi => ?_, fun i q hq => ?_, hh.injB, hh.injR, hh.apart, show c.J st.ys e.M w' from ht.out hmine hh, fun D' hD' => ?_, fun D' hD' => hh.defm D' (by rw [hD]; simp [show D' ∈ Ds from hD']), hh.mwr, hh.yl, (List.nodup_cons.1 hnd).2, RL_D hh.pin⟩
  · obtain ⟨⟨vs, h1, h2, h3⟩, h4⟩ := hh.box i b hi
    exact ⟨⟨vs, (ht.block _ (hh.box_lt hi) (hne _ _ _ _ h1)).trans h1, RL_D h2, h3⟩, h4⟩
  · obtain ⟨h3, h4⟩ := hh.row i q hq
    refine ⟨h3, ?_⟩
    cases hro : q.own
    · rw [hro] at h4; exact h4
    · rw [hro] at h4
      exact ⟨h4.1.same (fun g hg hlt => ht.block g hlt (by obtain ⟨_, cs, T, fz, h5⟩ := h4.1.lt hg; exact hne _ _ _ _ h5)), h4.2⟩
  · have h1 := hh.defd D' (by rw [hD]; simp [show D' ∈ Ds from hD'])
    rw [ht.block D' (lt_of_heap h1) (fun h => (List.nodup_cons.1 hnd).1 (h ▸ hD'))]
    exact h1

theorem putObj_turns {w : World} {g : Nat} (o : Obj) : Turns w (w.putObj g o) g := ⟨rfl, rfl, rfl, by simp, fun _ _ h => World.putObj_heap_other h⟩

theorem leaves_ok {c : Ctx} {st : St} {fn : Func} {tmps : Array Value} {R' : Ending → World → Prop} {n : Nat} {D0 : List Nat} : ∀ (Ds : List Nat) (e : Env) (w : World), HeapOK c e st w → e.D = Ds ++ D0 →
    (∀ w', HeapOK c ⟨e.β, e.ρ, e.M, D0, e.l⟩ st w' → ∃ v, (results fn tmps).run P w' = .ok v w' ∧ R' (.returned v) w') → LeavesInM (W none) n P fn tmps R' (marks Ds) .returning w := by
  intro Ds
  induction Ds with
  | nil =>
    intro e w hh hD h
    refine h w ?_
    have : e = ⟨e.β, e.ρ, e.M, D0, e.l⟩ := by cases e; simp at hD; subst hD; rfl
    rwa [← this]
  | cons d Ds ih =>
    intro e w hh hD h
    refine ⟨by simp, .inl ⟨d, _, rfl, run_takeDeferred (hh.defd d (by rw [hD]; simp)), ?_⟩⟩
    exact ih _ _ (hh.taken hD (putObj_turns _)) rfl h

theorem result_run {c : Ctx} {st : St} {e : Env} {a : Act} {w : World} (hTT : TTOK P TT) (hh : HeapOK c e st w) (ht : RL st e st.tmps a.tmps.toList) (r : ResultVar) (rv : RV) (h : resultOf TT st r = some rv) :
    ∃ v u, resolve st v = some rv ∧ R st e v u ∧ (resF a.tmps r).run P w = .ok u w := by
  have hget : ∀ t, R st e (getK .any st.tmps t) (a.tmps.getD t undef) := fun t => by
    have := RL_get ht t
    simpa [Array.getD_eq_getD_getElem?] using this
  cases r with
  | tmp t => exact ⟨_, _, h, hget t, rfl⟩
  | cell t T =>
    simp only [resultOf] at h
    split at h
    · rename_i id d hb hd
      split at h
      · rename_i bx hbx
        split at h
        · rename_i hc
          have hR := hget t
          rw [hb] at hR
          obtain ⟨_, hv⟩ := hR
          obtain ⟨⟨vs, h1, h2, h3⟩, _⟩ := hh.box id bx hbx
          have hlen := RL_length h2
          have := (run_loadVar (P := P) (w := w) (hTT _ _ hd) (p := ⟨e.β id, 0, none⟩) (vs := vs) (fun j hj => by
            rw [Addr.add_lit, cell_of_row w _ _ _ _ _ h1]; simp) (by omega)).1 hc.1
          refine ⟨.agg bx.cells, .agg vs.toArray, h, ⟨vs, rfl, h2⟩, ?_⟩
          simp only [resF, hv, asAddr]
          simp [this]
        · cases h
      · cases h
    · cases h

theorem results_run {c : Ctx} {st : St} {e : Env} {a : Act} {w : World} (hTT : TTOK P TT) (hh : HeapOK c e st w) (ht : RL st e st.tmps a.tmps.toList) : ∀ (l : List ResultVar) (rvs : List RV), resultsOf TT st l = some rvs →
    ∃ vs us, resolvesTo st vs rvs ∧ RL st e vs us ∧ (l.mapM (resF a.tmps)).run P w = .ok us w := by
  intro l
  induction l with
  | nil => intro rvs h; simp only [resultsOf, Option.some.injEq] at h; subst h; exact ⟨[], [], trivial, rfl, rfl⟩
  | cons r l ih =>
    intro rvs h
    simp only [resultsOf] at h
    split at h
    · rename_i rv hrv
      split at h
      · rename_i rvs' hrvs
        cases h
        obtain ⟨v, u, h1, h2, h3⟩ := result_run hTT hh ht r rv hrv
        obtain ⟨vs, us, h4, h5, h6⟩ := ih rvs' hrvs
        refine ⟨v :: vs, u :: us, ⟨h1, h4⟩, ⟨u, us, rfl, h2, h5⟩, ?_⟩
        rw [List.mapM_cons, Sem.run_bind, h3]
        simp only [Result.andThen_ok, Sem.run_bind]
        rw [h6]
        rfl
      · cases h
    · cases h

theorem RL_fillAny {st : St} {e : Env} : ∀ (n : Nat) (l : List AV) (vs : List Value), RL st e l vs → RL st e (fillAny n l) (vs ++ List.replicate (n - vs.length) undef) := by
  intro n
  induction n with
  | zero => intro l vs h; simpa [fillAny] using h
  | succ n ih =>
    intro l vs h
    cases l with
    | nil =>
      simp only [RL] at h
      subst h
      have := ih [] [] rfl
      simp only [List.length_nil, Nat.sub_zero, List.nil_append] at this ⊢
      rw [List.replicate_succ]
      exact ⟨undef, _, rfl, trivial, this⟩
    | cons x l =>
      obtain ⟨v, vs', rfl, h1, h2⟩ := h
      have := ih l vs' h2
      refine ⟨v, vs' ++ List.replicate (n - vs'.length) undef, by simp [Nat.succ_sub_succ], h1, this⟩

theorem allRes_resolves {st : St} : ∀ (l : List AV) (m : List RV), allRes (resolve st) l = some m → resolvesTo st l m := by
  intro l
  induction l with
  | nil => intro m h; simp only [allRes, Option.some.injEq] at h; subst h; trivial
  | cons x l ih =>
    intro m h
    simp only [allRes] at h
    split at h
    · rename_i r hr
      split at h
      · rename_i m' hm; cases h; exact ⟨hr, ih _ hm⟩
      · cases h
    · cases h

def noY : List (List AV) → List AV → Option (Prop × Bool) := fun _ _ => none

theorem yok_no {ci : Ctx} : YOK P ci noY := fun ys args M w p b _ _ _ h => by simp [noY] at h

/-- A contract out of a body. -/
theorem con_of_bodyT {f : FuncId} {fn : Func} {code : Code} {con : Con} (sh : List (Option (TypeId × EK))) (hf : P.funcs[f]? = some fn) (hb : fn.body = some code) (hname : (fn.name == "runtime.NumGoroutine") = false)
    (hTT : TTOK P TT) (hG : ∀ (c : Ctx), G c.g0 c.w0 → ∀ w, Frame c w → G c.g0 w)
    (h : ∀ rvs cr, con rvs = some cr → (∀ p ∈ cr.pre, p) → (cr.res.own = true ∧ cr.setr = [] ∧ occOk cr.kill (normL sh rvs) = true) ∧
      ∀ c : Ctx, c.r = none → (∀ w, Frame c w → G c.g0 w) → Tr P c code ⟨fillAny fn.ntmps (impL cr.kill 0 0 (normL sh rvs)).1, (impL cr.kill 0 0 (normL sh rvs)).2.1, (impL cr.kill 0 0 (normL sh rvs)).2.2, [], []⟩ (endOf TT fn (postOf cr.res))) : ConOK P G f con := by
  intro c e st w avs rvs cr vals fb fr hGw hh hres hargs hcr hpre hfb hfr
  refine ⟨⟨fn, hf, by rw [hb]; rfl, hname⟩, ?_⟩
  obtain ⟨⟨hown, hsetr, hocc⟩, hvc⟩ := h rvs cr hcr hpre
  have hocc' := occOk_spec hocc
  obtain ⟨bl, vl, hhand, hRL⟩ := impA_spec hh avs sh 0 0 rvs vals (allRes_resolves _ _ hres) hargs (kill := cr.kill) (fun id hid hk => (hocc' id hk).2 hid)
  generalize himp : impL cr.kill 0 0 (normL sh rvs) = im at hvc hhand hRL
  obtain ⟨avs', bs, rs⟩ := im
  simp only at hvc hhand hRL
  generalize hci : inner c e st w cr.kill hh = ci
  let e0 : Env := ⟨fun i => (bl[i]?).getD 0, fun i => (vl[i]?).getD undef, fun _ => False, [], 0⟩
  let st0 : St := ⟨fillAny fn.ntmps avs', bs, rs, [], []⟩
  have hfits : Fits st0 e0 0 0 bs rs bl vl := by
    refine ⟨fun i b hi => ?_, fun i r hi => ?_, fun i g hi => ?_, fun i v hi => ?_⟩
    · show getK none bs (0 + i) = some b
      rw [Nat.zero_add, getK_eq, hi]; rfl
    · show getK none rs (0 + i) = some r
      rw [Nat.zero_add, getK_eq, hi]; rfl
    · show (bl[0 + i]?).getD 0 = g
      rw [Nat.zero_add, hi]; rfl
    · show (vl[0 + i]?).getD undef = v
      rw [Nat.zero_add, hi]; rfl
  obtain ⟨hR0, hcells0⟩ := hRL st0 e0 hfits
  have hh0 : HeapOK ci e0 st0 w := by
    rw [← hci]
    exact inner_ok hh hhand (fun id hid => (hocc' id hid).1) rfl hcells0
  have hcr0 : ci.r = none := by rw [← hci]; rfl
  have hgood : ∀ w', Frame ci w' → G ci.g0 w' := by
    refine hG ci ?_
    rw [← hci]; exact hGw
  have hY : YOK P ci noY := yok_no
  have htr := hvc ci hcr0 hgood
  refine callsW.1 (callsIn_of_wp_marks (F := W none) (n := 0) hf hb trivial ?_ rfl)
  have ht0 : TmpsOK ci st0 e0 { tmps := vals.toArray ++ Array.replicate (fn.ntmps - vals.toArray.size) undef, defers := [] } := by
    refine ⟨?_, [], by rw [← hci]; rfl, rfl⟩
    have := RL_fillAny fn.ntmps avs' vals hR0
    simpa using this
  have htr0 := htr e0 _ w hh0 ht0
  rw [hcr0] at htr0
  refine wpIn_mono htr0 ?_
  have hend : ∀ a1 w1, (∃ st1 e1, HeapOK ci e1 st1 w1 ∧ TmpsOK ci st1 e1 a1 ∧ (match resultsOf TT st1 fn.results.toList with | some vs => Done (postOf cr.res vs) | none => False)) →
      LeavesInM (W none) 0 P fn a1.tmps (fun en w' => ∃ v e', en = .returned v ∧ HeapOK c e' ((cr.eff fb fr).apply fb fr st) w' ∧ Pres st e ((cr.eff fb fr).apply fb fr st) e' cr.kill ∧ R ((cr.eff fb fr).apply fb fr st) e' (cr.res.inst fb fr).1 v) a1.defers .returning w1 := by
    rintro a1 w1 ⟨st1, e1, hh1, ht1, hpost⟩
    obtain ⟨htR, own, hD, hdf⟩ := ht1
    rw [hdf]
    refine leaves_ok own e1 w1 hh1 hD (fun w2 hh2 => ?_)
    split at hpost
    · rename_i rvs1 hrv
      obtain ⟨hpost⟩ := hpost
      have ht2 : RL st1 ⟨e1.β, e1.ρ, e1.M, ci.D0, e1.l⟩ st1.tmps a1.tmps.toList := RL_D htR
      generalize (⟨e1.β, e1.ρ, e1.M, ci.D0, e1.l⟩ : Env) = e2 at hh2 ht2
      obtain ⟨vs, us, h1, h2, h3⟩ := results_run hTT hh2 ht2 _ _ hrv
      have hrun : (results fn a1.tmps).run P w2 = .ok (if h : us.toArray.size = 1 then us.toArray[0] else .tuple us.toArray) w2 := by
        rw [results_eq, Sem.run_bind, Array.mapM_eq_mapM_toList, Sem.run_map, h3]
        rfl
      refine ⟨_, hrun, ?_⟩
      -- the result goes over to the caller
      have hfin : ∀ (v : AV) (y : RV) (u : Value) (n : Nat), resolveF st1.boxes st1.rows n v = some y → R st1 e2 v u → chk cr.res y → (nodupB (idsOf cr.res y) && nodupB (bidsOf cr.res y)) = true →
          ∃ v' e', Ending.returned u = .returned v' ∧ HeapOK c e' ((cr.eff fb fr).apply fb fr st) w2 ∧ Pres st e ((cr.eff fb fr).apply fb fr st) e' cr.kill ∧ R ((cr.eff fb fr).apply fb fr st) e' (cr.res.inst fb fr).1 v' := by
        intro v y u n hres1 hR1 hc hnd
        simp only [Bool.and_eq_true] at hnd
        obtain ⟨bl2, vl2, ho, hout⟩ := out_spec hh2 fb fr n cr.res v y u hres1 hR1 hc
        have hM2 : ∀ k, ¬ e2.M k := by have := hh2.out; rw [← hci] at this; exact this
        have hback : Back c e st w w2 cr.kill := by
          have hfr2 := hh2.frame
          rw [← hci] at hfr2
          exact ⟨hfr2.os, hfr2.tape, hfr2.output, hfr2.size, fun k h1 h2 => hfr2.block k h1 h2⟩
        have hmineI : ∀ g, Mine ci e2.M g → w.heap.size ≤ g ∨ killBlk e st cr.kill g := fun g hg => by
          rw [← hci] at hg
          exact hg.1
        obtain ⟨h4, h5, h6⟩ := back_ok (st1 := st1) (e1 := e2) hh hback ho (inst_own cr.res fb fr hown) hnd.2 hnd.1
          (fun id g hg => hmineI g (hh2.blkB_mine hg)) (fun id g hg => hmineI g (hh2.blkR_mine hg).1) hh2.injB hh2.injR hh2.apart hfb hfr
          (st' := (cr.eff fb fr).apply fb fr st) (by unfold CR.eff; rw [hsetr]) rfl (by
            intro i b g vs hi hg hw
            exact (hout _ _ (back_fits ho (st := st) (e := e) (kill := cr.kill) (by unfold CR.eff; rw [hsetr]) rfl)).2 i b g vs hi hg hw)
        exact ⟨u, _, rfl, h4, h5, (hout _ _ h6).1⟩
      cases hvs : vs with
      | nil =>
        subst hvs
        cases rvs1 with
        | nil =>
          simp only [RL] at h2
          subst h2
          simp only [postOf] at hpost
          split at hpost
          · rename_i l hl
            refine hfin (.tup []) (.tup []) _ 2 rfl ⟨[], by simp, rfl⟩ ?_ ?_
            · rw [hl]; exact hpost.1
            · rw [hl]; exact hpost.2
          · exact hpost.elim
        | cons _ _ => exact h1.elim
      | cons v vs' =>
        subst hvs
        cases rvs1 with
        | nil => exact h1.elim
        | cons y ys =>
        obtain ⟨u, us', rfl, h4, h5⟩ := h2
        cases vs' with
        | nil =>
          cases ys with
          | cons _ _ => exact h1.2.elim
          | nil =>
          simp only [RL] at h5
          subst h5
          simp only [postOf] at hpost
          simpa using hfin v y u 200 h1.1 h4 hpost.1 hpost.2
        | cons v2 vs2 =>
          cases ys with
          | nil => exact h1.2.elim
          | cons y2 ys2 =>
          obtain ⟨u2, us2, rfl, h6, h7⟩ := h5
          have hne : ¬ ((u :: u2 :: us2).toArray.size = 1) := by simp
          rw [dif_neg hne]
          simp only [postOf] at hpost
          split at hpost
          · rename_i l hl
            have hn := resolves_fuel h1
            refine hfin (.tup (v :: v2 :: vs2)) (.tup (y :: y2 :: ys2)) _ (201 + (v :: v2 :: vs2).length + 1) (by simp only [resolveF]; rw [hn]) ⟨_, rfl, u, _, rfl, h4, u2, _, rfl, h6, h7⟩ ?_ ?_
            · rw [hl]; exact hpost.1
            · rw [hl]; exact hpost.2
          · exact hpost.elim
    · exact hpost.elim
  intro ex a1 w1 hq
  cases ex with
  | normal => obtain ⟨st1, e1, h1, h2, h3⟩ := hq; exact hend a1 w1 ⟨st1, e1, h1, h2, h3⟩
  | ret => obtain ⟨st1, e1, h1, h2, h3⟩ := hq; exact hend a1 w1 ⟨st1, e1, h1, h2, h3⟩
  | exit id => obtain ⟨st1, e1, h1, h2, h3⟩ := hq; exact h3.elim
  | goto l => obtain ⟨st1, e1, h1, h2, h3⟩ := hq; exact h3.elim
  | panic ch => exact hq.elim
  | outgrown => exact hq.elim
theorem con_of_body {f : FuncId} {fn : Func} {code : Code} {con : Con} (sh : List (Option (TypeId × EK))) (hf : P.funcs[f]? = some fn) (hb : fn.body = some code) (hname : (fn.name == "runtime.NumGoroutine") = false) (hd : drawsOk C code = true)
    (hTT : TTOK P TT) (hC : ∀ f con, C f = some con → ConOK P G f con) (hdraw : ∀ c, (∀ w, Frame c w → G c.g0 w) → YOK P c noY → DrawOK P TT C noY c) (hG : ∀ (c : Ctx), G c.g0 c.w0 → ∀ w, Frame c w → G c.g0 w)
    (h : ∀ rvs cr, con rvs = some cr → (∀ p ∈ cr.pre, p) → (cr.res.own = true ∧ cr.setr = [] ∧ occOk cr.kill (normL sh rvs) = true) ∧
      ∀ c : Ctx, c.r = none → (∀ w, Frame c w → G c.g0 w) → vc P TT C noY c code ⟨fillAny fn.ntmps (impL cr.kill 0 0 (normL sh rvs)).1, (impL cr.kill 0 0 (normL sh rvs)).2.1, (impL cr.kill 0 0 (normL sh rvs)).2.2, [], []⟩ (endOf TT fn (postOf cr.res))) : ConOK P G f con := by
  refine con_of_bodyT sh hf hb hname hTT hG (fun rvs cr h1 h2 => ⟨(h rvs cr h1 h2).1, fun c hc hgood => ?_⟩)
  exact vc_sound hTT hC hgood yok_no (hdraw c hgood yok_no) code _ _ hd ((h rvs cr h1 h2).2 c hc hgood)

end
end Go.X

namespace Go.X
open Go.RowKit

/-- Contexts that speak of the same call. -/
structure Kin (c c' : Ctx) : Prop where
  base : c'.base = c.base
  wr : c'.wr = c.wr
  w0 : c'.w0 = c.w0
  g0 : c'.g0 = c.g0
theorem Kin.frame {c c' : Ctx} (h : Kin c c') {w : World} (hf : Frame c' w) : Frame c w :=
  ⟨by rw [← h.w0]; exact hf.os, by rw [← h.w0]; exact hf.tape, by rw [← h.w0]; exact hf.output, by rw [← h.w0]; exact hf.size, fun k h1 h2 => by
    rw [← h.w0]; exact hf.block k (by rw [h.base]; exact h1) (by rw [h.wr]; exact h2)⟩
theorem Kin.trans {c c' c'' : Ctx} (h : Kin c c') (h' : Kin c' c'') : Kin c c'' := ⟨h'.base.trans h.base, h'.wr.trans h.wr, h'.w0.trans h.w0, h'.g0.trans h.g0⟩
theorem Kin.good {G : Nat → World → Prop} {c c' : Ctx} (h : Kin c c') (hg : ∀ w, Frame c w → G c.g0 w) : ∀ w, Frame c' w → G c'.g0 w := fun w hf => by rw [h.g0]; exact hg w (h.frame hf)

def resV (TT : TypeId → Option TD) (st : St) : ResultVar → Option AV
  | .tmp t => some (getK .any st.tmps t)
  | .cell t T => match getK .any st.tmps t, TT T with
    | .box id 0, some d => match getK none st.boxes id with
      | some bx => if d.k.isAgg = true ∧ d.size = bx.cells.length then some (.agg bx.cells) else none
      | none => none
    | _, _ => none
def resVs (TT : TypeId → Option TD) (st : St) : List ResultVar → Option (List AV)
  | [] => some []
  | r :: l => match resV TT st r with
    | some v => match resVs TT st l with | some vs => some (v :: vs) | none => none
    | none => none
def oneOf : List AV → AV
  | [v] => v
  | l => .tup l

/-- The state that a call's body begins in: the caller's temporaries are kept aside. -/
def inlSt (n : Nat) (st : St) (avs : List AV) : St := ⟨fillAny n avs, st.boxes, st.rows, st.ys, appendList st.tmps st.pin⟩
def wrapO : Bool → AV → AV
  | true, v => .opt true v
  | false, v => v
/-- Back in the caller. -/
def backSt (n : Nat) (dst : Option Tmp) (v : AV) (st : St) : St := match dst with
  | some d => ⟨setAt (takeK n st.pin) d v, st.boxes, st.rows, st.ys, dropK n st.pin⟩
  | none => ⟨takeK n st.pin, st.boxes, st.rows, st.ys, dropK n st.pin⟩
where setAt : List AV → Nat → AV → List AV
  | [], _, _ => []
  | _ :: l, 0, v => v :: l
  | x :: l, n + 1, v => x :: setAt l n v
def inlEnd (TT : TypeId → Option TD) (fn : Func) (n : Nat) (wr : Bool) (dst : Option Tmp) (k : St → Prop) : Exit → St → Prop
  | .normal, st | .ret, st => match resVs TT st fn.results.toList with
    | some vs => k (backSt n dst (wrapO wr (oneOf vs)) st)
    | none => False
  | _, _ => False

theorem setAt_eq (l : List AV) (n : Nat) (v : AV) : backSt.setAt l n v = l.set n v := by
  induction l generalizing n with
  | nil => rfl
  | cons x l ih => cases n with
    | zero => rfl
    | succ n => simp [backSt.setAt, ih]

section
variable {P : Program} {G : Nat → World → Prop} {TT : TypeId → Option TD} {c : Ctx}

theorem resV_run {st : St} {e : Env} {a : Act} {w : World} (hTT : TTOK P TT) (hh : HeapOK c e st w) (ht : RL st e st.tmps a.tmps.toList) (r : ResultVar) (v : AV) (h : resV TT st r = some v) :
    ∃ u, R st e v u ∧ (resF a.tmps r).run P w = .ok u w := by
  have hget : ∀ t, R st e (getK .any st.tmps t) (a.tmps.getD t undef) := fun t => by
    have := RL_get ht t
    simpa [Array.getD_eq_getD_getElem?] using this
  cases r with
  | tmp t => simp only [resV, Option.some.injEq] at h; subst h; exact ⟨_, hget t, rfl⟩
  | cell t T =>
    simp only [resV] at h
    split at h
    · rename_i id d hb hd
      split at h
      · rename_i bx hbx
        split at h
        · rename_i hc
          cases h
          have hR := hget t
          rw [hb] at hR
          obtain ⟨_, hv⟩ := hR
          obtain ⟨⟨vs, h1, h2, h3⟩, _⟩ := hh.box id bx hbx
          have hlen := RL_length h2
          have := (run_loadVar (P := P) (w := w) (hTT _ _ hd) (p := ⟨e.β id, 0, none⟩) (vs := vs) (fun j hj => by
            rw [Addr.add_lit, cell_of_row w _ _ _ _ _ h1]; simp) (by omega)).1 hc.1
          refine ⟨.agg vs.toArray, ⟨vs, rfl, h2⟩, ?_⟩
          simp only [resF, hv, asAddr]
          simp [this]
        · cases h
      · cases h
    · cases h

theorem resVs_run {st : St} {e : Env} {a : Act} {w : World} (hTT : TTOK P TT) (hh : HeapOK c e st w) (ht : RL st e st.tmps a.tmps.toList) : ∀ (l : List ResultVar) (vs : List AV), resVs TT st l = some vs →
    ∃ us, RL st e vs us ∧ (l.mapM (resF a.tmps)).run P w = .ok us w := by
  intro l
  induction l with
  | nil => intro vs h; simp only [resVs, Option.some.injEq] at h; subst h; exact ⟨[], rfl, rfl⟩
  | cons r l ih =>
    intro vs h
    simp only [resVs] at h
    split at h
    · rename_i v hv
      split at h
      · rename_i vs' hvs
        cases h
        obtain ⟨u, h2, h3⟩ := resV_run hTT hh ht r v hv
        obtain ⟨us, h5, h6⟩ := ih vs' hvs
        refine ⟨u :: us, ⟨u, us, rfl, h2, h5⟩, ?_⟩
        rw [List.mapM_cons, Sem.run_bind, h3]
        simp only [Result.andThen_ok, Sem.run_bind]
        rw [h6]
        rfl
      · cases h
    · cases h

theorem wrapO_R {st : St} {e : Env} {v : AV} {x : Value} (wr : Bool) (h : R st e v x) : R st e (wrapO wr v) x := by
  cases wr
  · exact h
  · exact ⟨fun _ => h, fun h => by cases h⟩

theorem RL_split {st : St} {e : Env} : ∀ (n : Nat) (l : List AV) (xs ys : List Value), xs.length = n → RL st e l (xs ++ ys) → RL st e (takeK n l) xs ∧ RL st e (dropK n l) ys := by
  intro n
  induction n with
  | zero => intro l xs ys hn h; cases xs with
    | nil => cases l <;> exact ⟨rfl, h⟩
    | cons _ _ => simp at hn
  | succ n ih =>
    intro l xs ys hn h
    cases xs with
    | nil => simp at hn
    | cons x xs =>
      cases l with
      | nil => simp [RL] at h
      | cons y l =>
        obtain ⟨v, vs', h1, h2, h3⟩ := h
        simp only [List.cons_append, List.cons.injEq] at h1
        obtain ⟨rfl, rfl⟩ := h1
        obtain ⟨h4, h5⟩ := ih l xs ys (by simpa using hn) h3
        exact ⟨⟨x, xs, rfl, h2, h4⟩, h5⟩

/-- The same call, with other temporaries kept aside. -/
theorem HeapOK.kin {c' : Ctx} {st st' : St} {e e' : Env} {w : World} (hk : Kin c c') (hb : st'.boxes = st.boxes) (hr : st'.rows = st.rows) (he : e'.β = e.β ∧ e'.ρ = e.ρ ∧ e'.M = e.M ∧ e'.l = e.l) (hl : c'.l = c.l)
    (hD : e'.D = e.D) (hJ : c'.J st'.ys e.M w) (hp : RL st' e' st'.pin c'.pv) (hh : HeapOK c e st w) : HeapOK c' e' st' w := by
  obtain ⟨β, ρ, M, D, l⟩ := e
  obtain ⟨β', ρ', M', D', l'⟩ := e'
  simp only at he hD
  obtain ⟨rfl, rfl, rfl, rfl⟩ := he
  subst hD
  obtain ⟨ts, bs, rs, ys, pn⟩ := st
  obtain ⟨ts', bs', rs', ys', pn'⟩ := st'
  simp only at hb hr
  subst hb; subst hr
  have hf : Frame c' w := ⟨by rw [hk.w0]; exact hh.frame.os, by rw [hk.w0]; exact hh.frame.tape, by rw [hk.w0]; exact hh.frame.output, by rw [hk.w0]; exact hh.frame.size, fun k h1 h2 => by
    rw [hk.w0]; exact hh.frame.block k (by rw [← hk.base]; exact h1) (by rw [← hk.wr]; exact h2)⟩
  have hm : ∀ g, Mine c M' g → Mine c' M' g := fun g h => by unfold Mine at *; rw [hk.base, hk.wr]; exact h
  have hx : ∀ g, Fixed c M' g → Fixed c' M' g := fun g h => by unfold Fixed at *; rw [hk.base, hk.wr]; exact h
  refine ⟨hf, fun i b hi => ?_, fun i q hq => ?_, hh.injB, hh.injR, hh.apart, hJ, hh.defd, fun D hD => ?_, fun k h => ?_, hh.yl.trans hl.symm, hh.nd, hp⟩
  · obtain ⟨⟨vs, h1, h2, h3⟩, h4⟩ := hh.box i b hi
    refine ⟨⟨vs, h1, RL_tmps _ _ h2, h3⟩, ?_⟩
    cases ho : b.own <;> rw [ho] at h4
    · exact hx _ h4
    · exact hm _ h4
  · obtain ⟨h3, h4⟩ := hh.row i q hq
    refine ⟨h3, ?_⟩
    cases ho : q.own <;> rw [ho] at h4
    · obtain ⟨a, cap, h5, h6, h7, h8⟩ := h4
      exact ⟨a, cap, h5, h6, h7, fun j v hj => by obtain ⟨b, h9, h10, h11⟩ := h8 j v hj; exact ⟨b, h9, hx _ h10, by rw [hk.w0]; exact h11⟩⟩
    · exact ⟨h4.1, fun g hg => hm g (h4.2 g hg)⟩
  · rw [hk.base]; exact hh.defm D hD
  · rw [hk.base, hk.wr]; exact hh.mwr k h

/-- The context of a call that is walked in its place. -/
def inlCtx (c : Ctx) (pv : List Value) (D0 : List Nat) : Ctx := { c with r := none, pv := pv, D0 := D0 }

theorem appendK_eq {α : Type} (l m : List α) : appendList l m = l ++ m := by
  induction l with
  | nil => rfl
  | cons x l ih => simp [appendList, ih]

theorem RL_st {st st' : St} {e : Env} {l : List AV} {vs : List Value} (hb : st'.boxes = st.boxes) (hr : st'.rows = st.rows) (h : RL st e l vs) : RL st' e l vs := by
  obtain ⟨ts, bs, rs, ys, pn⟩ := st
  obtain ⟨ts', bs', rs', ys', pn'⟩ := st'
  simp only at hb hr
  subst hb; subst hr
  exact RL_tmps _ _ h

theorem put_dst {st' : St} {e' : Env} {ts : List AV} {a : Act} {av : AV} {v : Value} (o : Option Tmp) (h : RL st' e' ts a.tmps.toList) (hv : R st' e' av v) :
    RL st' e' (match o with | some d => backSt.setAt ts d av | none => ts) (a.put o v).tmps.toList := by
  cases o with
  | none => exact h
  | some d =>
    have := RL_set h d hv
    simp only [Act.put, Array.toList_setIfInBounds, setAt_eq]
    exact this

/-- A body that is walked in its place: from the call on to what lies behind it. -/
theorem inl_body {st : St} {e : Env} {a : Act} {w : World} {fn : Func} {code : Code} {f : FuncId} {avs : List AV} {vals : List Value} {dst : Option Tmp} {k : St → Prop} {wr : Bool} (hTT : TTOK P TT) (hf : P.funcs[f]? = some fn) (hb : fn.body = some code)
    (hh : HeapOK c e st w) (ht : TmpsOK c st e a) (hargs : RL st e avs vals)
    (h : ∀ cI, Kin c cI → cI.r = none → Tr P cI code (inlSt fn.ntmps st avs) (inlEnd TT fn st.tmps.length wr dst k)) :
    Calls P f vals.toArray w fun en w' => ∃ v st' e', en = .returned v ∧ HeapOK c e' st' w' ∧ TmpsOK c st' e' (a.put dst v) ∧ k st' := by
  have hlen := RL_length ht.1
  let cI := inlCtx c (a.tmps.toList ++ c.pv) e.D
  have hk : Kin c cI := ⟨rfl, rfl, rfl, rfl⟩
  have hpin : RL st e (appendList st.tmps st.pin) (a.tmps.toList ++ c.pv) := by rw [appendK_eq]; exact RL_append ht.1 hh.pin
  have hh0 : HeapOK cI e (inlSt fn.ntmps st avs) w := by
    refine HeapOK.kin (c := c) (c' := cI) (st := st) (e := e) hk rfl rfl ⟨rfl, rfl, rfl, rfl⟩ rfl rfl hh.out ?_ hh
    exact RL_st (st := st) rfl rfl hpin
  have ht0 : TmpsOK cI (inlSt fn.ntmps st avs) e { tmps := vals.toArray ++ Array.replicate (fn.ntmps - vals.toArray.size) undef, defers := [] } := by
    refine ⟨?_, [], rfl, rfl⟩
    have := RL_fillAny fn.ntmps avs vals hargs
    have h2 := RL_st (st := st) (st' := inlSt fn.ntmps st avs) rfl rfl this
    show RL _ e (fillAny fn.ntmps avs) _
    simpa using h2
  refine callsW.1 (callsIn_of_wp_marks (F := W none) (n := 0) hf hb trivial ?_ rfl)
  have htr0 := h cI hk rfl e _ w hh0 ht0
  refine wpIn_mono htr0 ?_
  have hend : ∀ a1 w1, (∃ st1 e1, HeapOK cI e1 st1 w1 ∧ TmpsOK cI st1 e1 a1 ∧ (match resVs TT st1 fn.results.toList with | some vs => k (backSt st.tmps.length dst (wrapO wr (oneOf vs)) st1) | none => False)) →
      LeavesInM (W none) 0 P fn a1.tmps (fun en w' => ∃ v st' e', en = .returned v ∧ HeapOK c e' st' w' ∧ TmpsOK c st' e' (a.put dst v) ∧ k st') a1.defers .returning w1 := by
    rintro a1 w1 ⟨st1, e1, hh1, ⟨htR, own, hD, hdf⟩, hpost⟩
    rw [hdf]
    refine leaves_ok own e1 w1 hh1 hD (fun w2 hh2 => ?_)
    split at hpost
    · rename_i vs hvs
      have ht2 : RL st1 ⟨e1.β, e1.ρ, e1.M, cI.D0, e1.l⟩ st1.tmps a1.tmps.toList := RL_D htR
      obtain ⟨us, h1, h2⟩ := resVs_run hTT hh2 ht2 _ _ hvs
      have hrun : (results fn a1.tmps).run P w2 = .ok (if h : us.toArray.size = 1 then us.toArray[0] else .tuple us.toArray) w2 := by
        rw [results_eq, Sem.run_bind, Array.mapM_eq_mapM_toList, Sem.run_map, h2]
        rfl
      have hone : R st1 ⟨e1.β, e1.ρ, e1.M, cI.D0, e1.l⟩ (oneOf vs) (if h : us.toArray.size = 1 then us.toArray[0] else .tuple us.toArray) := by
        cases vs with
        | nil => simp only [RL] at h1; subst h1; exact ⟨[], by simp, rfl⟩
        | cons v vs' =>
          obtain ⟨u, us', rfl, h3, h4⟩ := h1
          cases vs' with
          | nil => simp only [RL] at h4; subst h4; simpa [oneOf] using h3
          | cons v2 vs2 =>
            obtain ⟨u2, us2, rfl, h5, h6⟩ := h4
            rw [dif_neg (by simp)]
            exact ⟨_, rfl, u, _, rfl, h3, u2, _, rfl, h5, h6⟩
      generalize hu : (if h : us.toArray.size = 1 then us.toArray[0] else .tuple us.toArray) = u at hrun hone
      obtain ⟨hp1, hp2⟩ := RL_split st.tmps.length st1.pin _ _ hlen hh2.pin
      refine ⟨u, hrun, u, _, ⟨e1.β, e1.ρ, e1.M, e.D, e1.l⟩, rfl, ?_, ?_, hpost⟩
      · refine HeapOK.kin (c := cI) (c' := c) (st := st1) (e := ⟨e1.β, e1.ρ, e1.M, e.D, e1.l⟩) ⟨rfl, rfl, rfl, rfl⟩ ?_ ?_ ⟨rfl, rfl, rfl, rfl⟩ rfl rfl ?_ ?_ hh2
        · unfold backSt; cases dst <;> rfl
        · unfold backSt; cases dst <;> rfl
        · have := hh2.out; unfold backSt; cases dst <;> exact this
        · unfold backSt; cases dst <;> exact RL_st (st := st1) rfl rfl hp2
      · refine ⟨?_, by cases dst <;> exact ht.2⟩
        have h3 := put_dst (a := a) dst hp1 (wrapO_R wr hone)
        unfold backSt
        cases dst <;> exact RL_st (st := st1) rfl rfl h3
    · exact hpost.elim
  intro ex a1 w1 hq
  cases ex with
  | normal => obtain ⟨st1, e1, h1, h2, h3⟩ := hq; exact hend a1 w1 ⟨st1, e1, h1, h2, h3⟩
  | ret => obtain ⟨st1, e1, h1, h2, h3⟩ := hq; exact hend a1 w1 ⟨st1, e1, h1, h2, h3⟩
  | exit id => obtain ⟨st1, e1, h1, h2, h3⟩ := hq; exact h3.elim
  | goto l => obtain ⟨st1, e1, h1, h2, h3⟩ := hq; exact h3.elim
  | panic ch => exact hq.elim
  | outgrown => exact hq.elim

/-- One operation, from every act and world that a state tells. -/
def TrOne (P : Program) (c : Ctx) (o : Oper) (st : St) (k : St → Prop) : Prop :=
  ∀ (e : Env) (a : Act) (w : World) (K' : Act → World → Prop) (Q : Exit → Act → World → Prop), HeapOK c e st w → TmpsOK c st e a →
    (∀ st' e' a' w', HeapOK c e' st' w' → TmpsOK c st' e' a' → k st' → K' a' w') → o.wpIn (W c.r) 0 P a w K' Q

theorem trOps_none {ops : Array Oper} {o : Oper} {rest : List Oper} {st : St} {K : St → Prop} (hg : o.guard = none) (h : TrOne P c o st (fun st' => TrOps P c ops rest st' K)) : TrOps P c ops (o :: rest) st K := by
  intro e a w Q hh ht hK
  have hw : Region.wanted o (yielded ops a.tmps) = true := by simp [Region.wanted, hg]
  unfold wpListIn
  rw [if_pos hw]
  exact h e a w _ Q hh ht (fun st' e' a' w' h1 h2 h3 => h3 e' a' w' Q h1 h2 hK)

def skipSt (dst : Option Tmp) (st : St) : St := match dst with
  | some d => ⟨backSt.setAt st.tmps d (.opt false .any), st.boxes, st.rows, st.ys, st.pin⟩
  | none => st

theorem trOps_some {ops : Array Oper} {o : Oper} {rest : List Oper} {st : St} {K : St → Prop} {j : Nat} {want g : Bool} (hg : o.guard = some (j, want)) (hgo : guardOf ops st.tmps j want = some g)
    (h1 : g = true → TrOne P c o st (fun st' => TrOps P c ops rest st' K)) (h2 : g = false → TrOps P c ops rest (skipSt o.dst st) K) : TrOps P c ops (o :: rest) st K := by
  intro e a w Q hh ht hK
  have hw := guardOf_spec (o := o) ht hg hgo
  unfold wpListIn
  rw [hw]
  cases hgv : g with
  | true =>
    rw [if_pos rfl]
    exact h1 hgv e a w _ Q hh ht (fun st' e' a' w' h1 h2 h3 => h3 e' a' w' Q h1 h2 hK)
  | false =>
    rw [if_neg (by simp)]
    refine ⟨fun _ _ => trivial, ?_⟩
    refine h2 hgv e _ w Q ?_ ⟨?_, ?_⟩ hK
    · unfold skipSt; cases st; cases o.dst <;> exact HeapOK_tmps hh
    · have := put_dst (a := a) (av := .opt false .any) (v := undef) o.dst ht.1 ⟨fun h => (by cases h), fun _ => rfl⟩
      unfold skipSt
      cases hd : o.dst with
      | none => rw [hd] at this; exact this
      | some d => rw [hd] at this; exact RL_st (st := st) rfl rfl this
    · cases o.dst <;> exact ht.2

/-- A call that is walked in its place. -/
theorem inl_one {o : Oper} {x : Operand} {args : Array Operand} {tys : Array TypeId} {f : FuncId} {caps : List AV} {fn : Func} {code : Code} {st : St} {k : St → Prop} (wr : Bool) (hTT : TTOK P TT) (ho : o.op = .call ⟨.value x, args, tys⟩)
    (hx : (unopt true (opnd st.tmps x)).2 = .fn f caps) (hf : P.funcs[f]? = some fn) (hb : fn.body = some code) (hname : (fn.name == "runtime.NumGoroutine") = false)
    (h : conjP (optOf st.tmps true o.op.operands.toList) (∀ cI, Kin c cI → cI.r = none → Tr P cI code (inlSt fn.ntmps st (appendList (mapK (fun y => (unopt true (opnd st.tmps y)).2) args.toList) caps)) (inlEnd TT fn st.tmps.length wr o.dst k))) : TrOne P c o st k := by
  intro e a w K' Q hh ht hK
  rw [conjP_iff] at h
  obtain ⟨hp, h⟩ := h
  have hop : ∀ y ∈ o.op.operands.toList, R st e (unopt true (opnd st.tmps y)).2 (a.eval y) := fun y hy => unopt_R (g := true) (opnd_R ht y) rfl (optOf_spec hp y hy)
  rw [ho] at hop
  simp only [Op.operands, Call.operands] at hop
  have hxR := hop x (by simp)
  rw [hx] at hxR
  obtain ⟨vs, hv, hl⟩ := hxR
  have hargs : RL st e (appendList (mapK (fun y => (unopt true (opnd st.tmps y)).2) args.toList) caps) (args.toList.map a.eval ++ vs) := by
    rw [appendK_eq, mapK_eq]
    exact RL_append (RL_map fun y hy => hop y (by simp; exact .inr (by simpa using hy))) hl
  have hcalls := inl_body (dst := o.dst) (k := k) (wr := wr) hTT hf hb hh ht hargs h
  refine wp_in (fun cl hcl => by rw [ho] at hcl; cases hcl) ?_
  unfold Oper.wp
  have hargs' : args.map a.eval ++ vs.toArray = (args.toList.map a.eval ++ vs).toArray := Array.ext' (by simp)
  have : (execOp a.eval o).run P w = .ok (.enter f (args.toList.map a.eval ++ vs).toArray) w := by
    have hb' : fn.body ≠ none := by intro h'; rw [h'] at hb; cases hb
    have hne : fn.name ≠ "runtime.NumGoroutine" := by simpa using hname
    simp only [execOp, ho, Go.resolve, hv, Deferred.ofValue, invoke, callFunc]
    simp [hf, hne, hb', hargs']
  rw [this]
  simp only [Oper.upon]
  refine hcalls.mono ?_
  rintro en w' ⟨v, st', e', rfl, h1, h2, h3⟩
  exact hK st' e' _ w' h1 h2 h3
end
end Go.X

namespace Go.X
open Go.RowKit

theorem tdok_of {P : Program} {t : TypeId} {d : TD} {i : TypeInfo} {z : Value} (hi : P.info? t = some i) (hz : i.zero = some z) (hk : TKOK P t d.k) (hs : i.size = d.size ∧ i.bytes = d.bytes ∧ z.cells.toList.length = d.size) (hone : z.cells.toList.all (·.oneCell') = true)
    (hzero : d.big = none ∧ d.zero = mapK atomOf z.cells.toList ∨ ∃ k n, d.big = some (k, n) ∧ z.cells.toList = valsOf k (List.replicate n k.dflt) ∧ n ≤ 1000 ∧ k ≠ .byte)
    (hek : d.ek = none ∨ ∃ k, d.ek = some k ∧ d.size = k.size ∧ k ≠ .byte ∧ z.cells.toList = k.vals k.dflt)
    (heq : d.eqs = true → ∀ k, d.ek = some k → P.eqGuardType P.depth t = false ∧ ∀ (x y : k.ty) (w : World), (Op.equalIn 10000 t (.agg (k.vals x).toArray) (.agg (k.vals y).toArray)).run P w = .ok (k.eqb x y) w := by intro h; cases h) : TDOK P t d := by
  refine ⟨hk, ⟨i, hi, hs.1, hs.2.1, z, hz, fun hb st e => ?_, List.all_eq_true.1 hone, hs.2.2, fun k n hb => ?_⟩, fun k h => ?_, fun k h i' z' hi' hz' => ?_, heq⟩
  · rcases hzero with ⟨_, h⟩ | ⟨k, n, h, _⟩
    · rw [h]; exact mapK_atom_R _
    · rw [h] at hb; cases hb
  · rcases hzero with ⟨h, _⟩ | ⟨k', n', h, h2⟩
    · rw [h] at hb; cases hb
    · rw [h] at hb; cases hb; exact h2
  · rcases hek with h' | ⟨k', h', h2⟩
    · rw [h'] at h; cases h
    · rw [h'] at h; cases h; exact ⟨h2.1, h2.2.1⟩
  · rw [hi] at hi'; cases hi'
    rw [hz] at hz'; cases hz'
    rcases hek with h' | ⟨k', h', h2⟩
    · rw [h'] at h; cases h
    · rw [h'] at h; cases h; exact h2.2.2

def tabT : List (Nat × TD) → Nat → Option TD
  | [], _ => none
  | (n, d) :: l, m => match Nat.beq n m with | true => some d | false => tabT l m
theorem tabT_ok {P : Program} : ∀ (l : List (Nat × TD)), (∀ p ∈ l, TDOK P p.1 p.2) → TTOK P (tabT l) := by
  intro l
  induction l with
  | nil => intro _ t d h; simp [tabT] at h
  | cons p l ih =>
    obtain ⟨n, d'⟩ := p
    intro hl t d h
    simp only [tabT] at h
    split at h
    · rename_i hb
      cases h
      have := Nat.eq_of_beq_eq_true hb
      subst this
      exact hl (n, d') (by simp)
    · exact ih (fun p hp => hl p (by simp [hp])) t d h

def tabC : List (Nat × Con) → Nat → Option Con
  | [], _ => none
  | (n, d) :: l, m => match Nat.beq n m with | true => some d | false => tabC l m
def AllC (P : Program) (G : Nat → World → Prop) : List (Nat × Con) → Prop
  | [] => True
  | (n, d) :: l => ConOK P G n d ∧ AllC P G l
theorem tabC_ok {P : Program} {G : Nat → World → Prop} : ∀ (l : List (Nat × Con)), AllC P G l → ∀ f con, tabC l f = some con → ConOK P G f con := by
  intro l
  induction l with
  | nil => intro _ t d h; simp [tabC] at h
  | cons p l ih =>
    obtain ⟨n, d'⟩ := p
    intro hl t d h
    simp only [tabC] at h
    split at h
    · rename_i hb
      cases h
      have := Nat.eq_of_beq_eq_true hb
      subst this
      exact hl.1
    · exact ih hl.2 t d h

theorem fo {P : Program} {t : TypeId} {fs : Array Field} (h : P.underlying t = some (.struct fs)) : P.fieldsOf t = fs := by
  simp [Program.fieldsOf, h]
theorem info_of {P : Program} {t : TypeId} {i : TypeInfo} (h : P.types[t]? = some i) : P.info? t = some i := by
  unfold Tables.info?
  rw [if_pos (Array.getElem?_eq_some_iff.1 h).1]
  exact h

/-- The first argument's row is given away. -/
theorem impL_kill {id nb nr : Nat} {r : Row} {l : List RV} : impL [id] nb nr (.row id r :: l) = match impL [id] nb (nr + 1) l with | (vs, bs, rs) => (.row nr :: vs, bs, some ⟨r.T, r.k, r.l, r.own⟩ :: rs) := by
  simp only [impL, imp, List.length_nil, Nat.add_zero, List.length_singleton, List.contains_cons, beq_self_eq_true, Bool.true_or, Bool.true_and]
  rfl
theorem chk_i {k : IntKind} {m n : Int} (h : n = m) : chk (.a (.i k m)) (.a (.i k n)) := by subst h; rfl
theorem chk_b {x y : Bool} (h : y = x) : chk (.a (.b x)) (.a (.b y)) := by subst h; rfl
theorem chk_s {x y : ByteArray} (h : y = x) : chk (.a (.s x)) (.a (.s y)) := by subst h; rfl

/-- A mark in the table: a function that turns what it is handed. -/
def cMark : Con := fun _ => none
theorem okMark {P : Program} {G : Nat → World → Prop} {f : FuncId} : ConOK P G f cMark := by
  intro c e st w avs rvs cr vals fb fr hG hh hres hargs hcr
  cases hcr
/-- What every body of a seat shares. -/
structure Seat (P : Program) (G : Nat → World → Prop) (TT : TypeId → Option TD) : Prop where
  tt : TTOK P TT
  mixed : P.follows .mixedOrders = true
  good : ∀ (c : Ctx), G c.g0 c.w0 → ∀ w, Frame c w → G c.g0 w

/-- What 'vc' asks is enough, in a context. -/
structure VS (P : Program) (TT : TypeId → Option TD) (C : Nat → Option Con) (c : Ctx) : Prop where
  code : ∀ (c' : Ctx), Kin c c' → ∀ (code : Code) (st : St) (K : Exit → St → Prop), drawsOk C code = true → stF st (fun st => vc P TT C noY c' code st K) → Tr P c' code st K
  ops : ∀ (c' : Ctx), Kin c c' → ∀ (ops : Array Oper) (l : List Oper) (st : St) (K : St → Prop), stF st (fun st => vcOps TT C noY (TrOps P c') ops l st K) → TrOps P c' ops l st K
theorem VS.kin {P : Program} {TT : TypeId → Option TD} {C : Nat → Option Con} {c c' : Ctx} (h : VS P TT C c) (hk : Kin c c') : VS P TT C c' := ⟨fun c'' hk' => h.code c'' (hk.trans hk'), fun c'' hk' => h.ops c'' (hk.trans hk')⟩
theorem VS.go {P : Program} {TT : TypeId → Option TD} {C : Nat → Option Con} {c : Ctx} (h : VS P TT C c) {code : Code} {st : St} {K : Exit → St → Prop} (hd : drawsOk C code = true) (hv : stF st (fun st => vc P TT C noY c code st K)) : Tr P c code st K := h.code c ⟨rfl, rfl, rfl, rfl⟩ code st K hd hv
theorem VS.on {P : Program} {TT : TypeId → Option TD} {C : Nat → Option Con} {c : Ctx} (h : VS P TT C c) {ops : Array Oper} {l : List Oper} {st : St} {K : St → Prop} (hv : stF st (fun st => vcOps TT C noY (TrOps P c) ops l st K)) : TrOps P c ops l st K := h.ops c ⟨rfl, rfl, rfl, rfl⟩ ops l st K hv

/-- A contract out of a body, for a seat. -/
theorem seat_con {P : Program} {G : Nat → World → Prop} {TT : TypeId → Option TD} (hS : Seat P G TT) {f : FuncId} {fn : Func} {code : Code} {con : Con} (l : List (Nat × Con)) (sh : List (Option (TypeId × EK))) (hl : AllC P G l)
    (hf : P.funcs[f]? = some fn) (hb : fn.body = some code) (hname : (fn.name == "runtime.NumGoroutine") = false) (hd : drawsOk (tabC l) code = true)
    (h : ∀ rvs cr, con rvs = some cr → (∀ p ∈ cr.pre, p) → (cr.res.own = true ∧ cr.setr = [] ∧ occOk cr.kill (normL sh rvs) = true) ∧
      ∀ c : Ctx, c.r = none → VS P TT (tabC l) c → stF ⟨fillAny fn.ntmps (impL cr.kill 0 0 (normL sh rvs)).1, (impL cr.kill 0 0 (normL sh rvs)).2.1, (impL cr.kill 0 0 (normL sh rvs)).2.2, [], []⟩ (fun st => vc P TT (tabC l) noY c code st (endOf TT fn (postOf cr.res)))) : ConOK P G f con :=
  con_of_body sh hf hb hname hd hS.tt (tabC_ok l hl) (fun _ hgood hY => draw_ok hS.tt (tabC_ok l hl) hgood hY hS.mixed) hS.good (fun rvs cr h1 h2 => ⟨(h rvs cr h1 h2).1, fun c hc hgood => by
    have := (h rvs cr h1 h2).2 c hc ⟨fun c' hk code st K hd hv => by
      rw [stF_eq] at hv
      exact vc_sound hS.tt (tabC_ok l hl) (hk.good hgood) yok_no (draw_ok hS.tt (tabC_ok l hl) (hk.good hgood) yok_no hS.mixed) code st K hd hv,
      fun c' hk ops l' st K hv => by
      rw [stF_eq] at hv
      exact fun e a w Q hh ht hK => vcOps_sound hS.tt (tabC_ok l hl) (hk.good hgood) yok_no hK l' st e a w hh ht hv⟩
    rw [stF_eq] at this
    exact this⟩)

/-- A contract out of a body, that is walked by hand where that is asked. -/
theorem seat_conT {P : Program} {G : Nat → World → Prop} {TT : TypeId → Option TD} (hS : Seat P G TT) {f : FuncId} {fn : Func} {code : Code} {con : Con} (l : List (Nat × Con)) (sh : List (Option (TypeId × EK))) (hl : AllC P G l)
    (hf : P.funcs[f]? = some fn) (hb : fn.body = some code) (hname : (fn.name == "runtime.NumGoroutine") = false)
    (h : ∀ rvs cr, con rvs = some cr → (∀ p ∈ cr.pre, p) → (cr.res.own = true ∧ cr.setr = [] ∧ occOk cr.kill (normL sh rvs) = true) ∧
      ∀ c : Ctx, c.r = none → VS P TT (tabC l) c → Tr P c code ⟨fillAny fn.ntmps (impL cr.kill 0 0 (normL sh rvs)).1, (impL cr.kill 0 0 (normL sh rvs)).2.1, (impL cr.kill 0 0 (normL sh rvs)).2.2, [], []⟩ (endOf TT fn (postOf cr.res))) : ConOK P G f con :=
  con_of_bodyT sh hf hb hname hS.tt hS.good (fun rvs cr h1 h2 => ⟨(h rvs cr h1 h2).1, fun c hc hgood => (h rvs cr h1 h2).2 c hc ⟨fun c' hk code st K hd hv => by
      rw [stF_eq] at hv
      exact vc_sound hS.tt (tabC_ok l hl) (hk.good hgood) yok_no (draw_ok hS.tt (tabC_ok l hl) (hk.good hgood) yok_no hS.mixed) code st K hd hv,
      fun c' hk ops l' st K hv => by
      rw [stF_eq] at hv
      exact fun e a w Q hh ht hK => vcOps_sound hS.tt (tabC_ok l hl) (hk.good hgood) yok_no hK l' st e a w hh ht hv⟩⟩)

section
variable {P : Program} {c : Ctx}
/-- One behind the other. -/
theorem Tr_seq {x y : Code} {st : St} {K : Exit → St → Prop} (h : Tr P c x st (exitThen (fun st' => Lf (Tr P c y st' K)) K)) : Tr P c (.seq x y) st K := by
  intro e a w hh ht
  refine wpIn_seq (wpIn_mono (h e a w hh ht) ?_)
  intro ex a' w' hq
  cases ex with
  | normal => obtain ⟨st', e', h1, h2, h3⟩ := hq; exact h3.un e' a' w' h1 h2
  | _ => exact hq
/-- A text, told by a name. -/
theorem Tr_gen {code : Code} {st : St} {K : Exit → St → Prop} (t : Nat) (v : ByteArray) (hg : st.tmps[t]? = some (.s v)) (h : ∀ s, s = v → stF ⟨backSt.setAt st.tmps t (.s s), st.boxes, st.rows, st.ys, st.pin⟩ fun st => Tr P c code st K) : Tr P c code st K := by
  have := h v rfl
  rw [stF_eq, setAt_eq] at this
  obtain ⟨ts, bs, rs, ys, pn⟩ := st
  have e : ts.set t (.s v) = ts := by
    apply List.ext_getElem?
    intro i
    rw [List.getElem?_set]
    by_cases hi : t = i
    · subst hi
      rw [if_pos rfl]
      have hg : ts[t]? = some (.s v) := hg
      rw [hg]
      simp [(List.getElem?_eq_some_iff.1 hg).1]
    · rw [if_neg hi]
  rwa [e] at this
end
end Go.X

namespace Go.X
open Go.RowKit

mutual
def AV.yvs : AV → Bool
  | .yv => true
  | .fn _ l => AV.yvsL l
  | .agg l => AV.yvsL l
  | .tup l => AV.yvsL l
  | .opt _ v => v.yvs
  | .ifc _ v => v.yvs
  | _ => false
def AV.yvsL : List AV → Bool
  | [] => false
  | x :: l => x.yvs || AV.yvsL l
end
def sweepY (v : AV) : AV := match v.yvs with | true => .any | false => v
def sweepYB : Option Box → Option Box
  | some ⟨T, cells, own⟩ => some ⟨T, mapK sweepY cells, own⟩
  | none => none

section
variable {st st' : St} {e e' : Env}
mutual
theorem noY_R (hb : ∀ id bx, getK none st.boxes id = some bx → ∃ bx', getK none st'.boxes id = some bx') (hr : st'.rows = st.rows) (hβ : e'.β = e.β) (hρ : e'.ρ = e.ρ) (v : AV) (x : Value) (hy : v.yvs = false) (h : R st e v x) : R st' e' v x := by
  match v with
  | .i .. | .b .. | .s .. | .nilp | .nilf | .nili | .nils | .any => exact h
  | .yv => simp [AV.yvs] at hy
  | .box id off =>
    obtain ⟨⟨bx, hbx⟩, rfl⟩ := h
    exact ⟨hb id bx hbx, by rw [hβ]⟩
  | .row id => simp only [R] at h ⊢; rw [hr, hρ]; exact h
  | .view id lo hi ex => simp only [R] at h ⊢; rw [hr, hρ]; exact h
  | .arrp id => simp only [R] at h ⊢; rw [hr, hρ]; exact h
  | .elt id ix sub => simp only [R] at h ⊢; rw [hr, hρ]; exact h
  | .fn f l => obtain ⟨vs, rfl, hl'⟩ := h; exact ⟨vs, rfl, noY_RL hb hr hβ hρ l vs (by simpa [AV.yvs] using hy) hl'⟩
  | .agg l => obtain ⟨vs, rfl, hl'⟩ := h; exact ⟨vs, rfl, noY_RL hb hr hβ hρ l vs (by simpa [AV.yvs] using hy) hl'⟩
  | .tup l => obtain ⟨vs, rfl, hl'⟩ := h; exact ⟨vs, rfl, noY_RL hb hr hβ hρ l vs (by simpa [AV.yvs] using hy) hl'⟩
  | .opt g v => exact ⟨fun hg => noY_R hb hr hβ hρ v x (by simpa [AV.yvs] using hy) (h.1 hg), h.2⟩
  | .ifc T v => obtain ⟨y, rfl, hy'⟩ := h; exact ⟨y, rfl, noY_R hb hr hβ hρ v y (by simpa [AV.yvs] using hy) hy'⟩
theorem noY_RL (hb : ∀ id bx, getK none st.boxes id = some bx → ∃ bx', getK none st'.boxes id = some bx') (hr : st'.rows = st.rows) (hβ : e'.β = e.β) (hρ : e'.ρ = e.ρ) (l : List AV) (vs : List Value) (hy : AV.yvsL l = false) (h : RL st e l vs) : RL st' e' l vs := by
  match l with
  | [] => exact h
  | x :: l =>
    obtain ⟨v, vs', h1, h2, h3⟩ := h
    simp only [AV.yvsL, Bool.or_eq_false_iff] at hy
    exact ⟨v, vs', h1, noY_R hb hr hβ hρ x v hy.1 h2, noY_RL hb hr hβ hρ l vs' hy.2 h3⟩
end

theorem sweepY_R (hb : ∀ id bx, getK none st.boxes id = some bx → ∃ bx', getK none st'.boxes id = some bx') (hr : st'.rows = st.rows) (hβ : e'.β = e.β) (hρ : e'.ρ = e.ρ) {v : AV} {x : Value} (h : R st e v x) : R st' e' (sweepY v) x := by
  unfold sweepY
  split
  · trivial
  · rename_i hy; exact noY_R hb hr hβ hρ v x hy h
theorem sweepY_RL (hb : ∀ id bx, getK none st.boxes id = some bx → ∃ bx', getK none st'.boxes id = some bx') (hr : st'.rows = st.rows) (hβ : e'.β = e.β) (hρ : e'.ρ = e.ρ) {l : List AV} {vs : List Value} (h : RL st e l vs) : RL st' e' (mapK sweepY l) vs := by
  induction l generalizing vs with
  | nil => exact h
  | cons x l ih => obtain ⟨v, vs', h1, h2, h3⟩ := h; exact ⟨v, vs', h1, sweepY_R hb hr hβ hρ h2, ih h3⟩
end

theorem getK_sweepYB (l : List (Option Box)) (i : Nat) : getK none (mapK sweepYB l) i = sweepYB (getK none l i) := by
  induction l generalizing i with
  | nil => rfl
  | cons x l ih => cases i with
    | zero => rfl
    | succ i => exact ih i

section
variable {P : Program} {G : Nat → World → Prop} {TT : TypeId → Option TD} {c : Ctx}

/-- Over to another context of the same call: who ranges, and what yield means, may differ. -/
theorem HeapOK.hop {c' : Ctx} {st st' : St} {e e' : Env} {w : World} (hk : Kin c c') (hb : st'.boxes = mapK sweepYB st.boxes) (hr : st'.rows = st.rows) (hβ : e'.β = e.β) (hρ : e'.ρ = e.ρ) (hl : e'.l = c'.l)
    (hM : ∀ g, ¬ e.M g → (g < c.base ∨ ∃ cs T fz, w.heap[g]? = some (.cells cs T fz)) → ¬ e'.M g) (hD : ∀ D ∈ e'.D, w.heap[D]? = some (.deferred (some [])) ∧ ¬ e'.M D ∧ c.base ≤ D) (hnd : e'.D.Nodup)
    (hmwr : ∀ k, e'.M k → c.wr k ∨ c.base ≤ k) (hJ : c'.J st'.ys e'.M w) (hp : RL st' e' st'.pin c'.pv) (hh : HeapOK c e st w) : HeapOK c' e' st' w := by
  have hget : ∀ i, getK none st'.boxes i = sweepYB (getK none st.boxes i) := fun i => by rw [hb, getK_sweepYB]
  have hB : ∀ id bx, getK none st.boxes id = some bx → ∃ bx', getK none st'.boxes id = some bx' := fun id bx h => by rw [hget, h]; exact ⟨_, rfl⟩
  have hBB : ∀ i, blkB e' st' i = blkB e st i := fun i => by
    simp only [blkB, hget, hβ]
    cases getK none st.boxes i <;> rfl
  have hRR : ∀ i, blkR e' st' i = blkR e st i := fun i => by simp only [blkR, hr, hρ]
  have hf : Frame c' w := ⟨by rw [hk.w0]; exact hh.frame.os, by rw [hk.w0]; exact hh.frame.tape, by rw [hk.w0]; exact hh.frame.output, by rw [hk.w0]; exact hh.frame.size, fun k h1 h2 => by
    rw [hk.w0]; exact hh.frame.block k (by rw [← hk.base]; exact h1) (by rw [← hk.wr]; exact h2)⟩
  have hm : ∀ g, (∃ cs T fz, w.heap[g]? = some (.cells cs T fz)) → Mine c e.M g → Mine c' e'.M g := fun g hc h => by
    refine ⟨?_, hM g h.2 (.inr hc)⟩
    rw [hk.base, hk.wr]; exact h.1
  have hx : ∀ g, Fixed c e.M g → Fixed c' e'.M g := fun g h => ⟨by rw [hk.base]; exact h.1, by rw [hk.wr]; exact h.2.1, hM g h.2.2 (.inl h.1)⟩
  refine ⟨hf, fun i b' hi => ?_, fun i q hq => ?_, fun i j g h1 h2 => hh.injB i j g (by rw [← hBB]; exact h1) (by rw [← hBB]; exact h2), fun i j g h1 h2 => hh.injR i j g (by rw [← hRR]; exact h1) (by rw [← hRR]; exact h2),
    fun i j g h1 h2 => hh.apart i j g (by rw [← hBB]; exact h1) (by rw [← hRR]; exact h2), hJ, fun D hD' => (hD D hD').1, fun D hD' => ⟨(hD D hD').2.1, by rw [hk.base]; exact (hD D hD').2.2⟩, fun k h => by rw [hk.base, hk.wr]; exact hmwr k h, hl, hnd, hp⟩
  · rw [hget] at hi
    cases hgb : getK none st.boxes i with
    | none => rw [hgb] at hi; cases hi
    | some b =>
      rw [hgb] at hi
      obtain ⟨T, cells, own⟩ := b
      simp only [sweepYB, Option.some.injEq] at hi
      subst hi
      obtain ⟨⟨vs, h1, h2, h3⟩, h4⟩ := hh.box i _ hgb
      refine ⟨⟨vs, by rw [hβ]; exact h1, sweepY_RL hB hr hβ hρ h2, h3⟩, ?_⟩
      simp only at h4 ⊢
      rw [hβ]
      cases own
      · exact hx _ h4
      · exact hm _ ⟨_, _, _, h1⟩ h4
  · rw [hr] at hq
    obtain ⟨h3, h4⟩ := hh.row i q hq
    refine ⟨h3, ?_⟩
    rw [hρ]
    cases ho : q.own <;> rw [ho] at h4
    · obtain ⟨a, cap, h5, h6, h7, h8⟩ := h4
      exact ⟨a, cap, h5, h6, h7, fun j v hj => by obtain ⟨b, h9, h10, h11⟩ := h8 j v hj; exact ⟨b, h9, hx _ h10, by rw [hk.w0]; exact h11⟩⟩
    · exact ⟨h4.1, fun g hg => hm g (by obtain ⟨_, cs, T, fz, h5⟩ := h4.1.lt hg; exact ⟨cs, T, fz, h5⟩) (h4.2 g hg)⟩

/-- A loop's record turns. -/
theorem HeapOK.looped {st : St} {e : Env} {w : World} {l : Nat} {o : Obj} {ys : List (List AV)} (hh : HeapOK c e st w) (hl : e.M l) (hno : ∀ D ∈ e.D, D ≠ l) (hJ : c.J ys e.M (w.putObj l o)) : HeapOK c e ⟨st.tmps, st.boxes, st.rows, ys, st.pin⟩ (w.putObj l o) := by
  have ht : Turns w (w.putObj l o) l := putObj_turns o
  have hmine : ∀ g, Mine c e.M g → g ≠ l := fun g h hg => h.2 (hg ▸ hl)
  have hfix : ∀ g, Fixed c e.M g → g ≠ l := fun g h hg => h.2.2 (hg ▸ hl)
  refine ⟨⟨ht.os.trans hh.frame.os, ht.tape.trans hh.frame.tape, ht.output.trans hh.frame.output, Nat.le_trans hh.frame.size ht.size, fun k h1 h2 => ?_⟩, fun i b hi => ?_, fun i q hq => ?_, hh.injB, hh.injR, hh.apart, hJ, fun D hD => ?_, hh.defm, hh.mwr, hh.yl, hh.nd, RL_st (st := st) rfl rfl hh.pin⟩
  · rw [ht.block k (by have := hh.base_le; omega) (fun hk => by subst hk; rcases hh.mwr k hl with h3 | h3; exact h2 h3; omega)]
    exact hh.frame.block k h1 h2
  · obtain ⟨⟨vs, h1, h2, h3⟩, h4⟩ := hh.box i b hi
    refine ⟨⟨vs, (ht.block _ (hh.box_lt hi) ?_).trans h1, RL_st (st := st) rfl rfl h2, h3⟩, h4⟩
    cases ho : b.own <;> rw [ho] at h4
    · exact hfix _ h4
    · exact hmine _ h4
  · obtain ⟨h3, h4⟩ := hh.row i q hq
    refine ⟨h3, ?_⟩
    cases hro : q.own
    · rw [hro] at h4; exact h4
    · rw [hro] at h4
      exact ⟨h4.1.same (fun g hg hlt => ht.block g hlt (hmine g (h4.2 g hg))), h4.2⟩
  · rw [ht.block D (lt_of_heap (hh.defd D hD)) (hno D hD)]
    exact hh.defd D hD

theorem HeapOK.dead {st : St} {e : Env} {w : World} {l : Nat} {o : Obj} {r : Loop} (hh : HeapOK c e st w) (hl : w.heap[l]? = some (.loop r)) (hm : Mine c e.M l) : HeapOK c e st (w.putObj l o) := by
  have ht : Turns w (w.putObj l o) l := putObj_turns o
  have hne : ∀ g cs T fz, w.heap[g]? = some (.cells cs T fz) → g ≠ l := fun g cs T fz h heq => by rw [heq, hl] at h; cases h
  refine ⟨ht.frame hm hh.frame, fun i b hi => ?_, fun i q hq => ?_, hh.injB, hh.injR, hh.apart, ht.out hm hh, fun D hD => ?_, hh.defm, hh.mwr, hh.yl, hh.nd, hh.pin⟩
  · obtain ⟨⟨vs, h1, h2, h3⟩, h4⟩ := hh.box i b hi
    exact ⟨⟨vs, (ht.block _ (hh.box_lt hi) (hne _ _ _ _ h1)).trans h1, h2, h3⟩, h4⟩
  · obtain ⟨h3, h4⟩ := hh.row i q hq
    refine ⟨h3, ?_⟩
    cases hro : q.own
    · rw [hro] at h4; exact h4
    · rw [hro] at h4
      exact ⟨h4.1.same (fun g hg hlt => ht.block g hlt (by obtain ⟨_, cs, T, fz, h5⟩ := h4.1.lt hg; exact hne _ _ _ _ h5)), h4.2⟩
  · have h1 := hh.defd D hD
    rw [ht.block D (lt_of_heap h1) (fun h => by rw [h, hl] at h1; cases h1)]
    exact h1

theorem HeapOK.lessD {st : St} {e : Env} {w : World} {own Ds : List Nat} (hh : HeapOK c e st w) (hD : e.D = own ++ Ds) : HeapOK c ⟨e.β, e.ρ, e.M, Ds, e.l⟩ st w := by
  have hnd := hh.nd
  rw [hD] at hnd
  refine ⟨hh.frame, fun i b hi => ?_, hh.row, hh.injB, hh.injR, hh.apart, hh.out, fun D hD' => hh.defd D (by rw [hD]; exact List.mem_append_right _ hD'), fun D hD' => hh.defm D (by rw [hD]; exact List.mem_append_right _ hD'), hh.mwr, hh.yl, (List.nodup_append.1 hnd).2.1, RL_D hh.pin⟩
  obtain ⟨⟨vs, h1, h2, h3⟩, h4⟩ := hh.box i b hi
  exact ⟨⟨vs, h1, RL_D h2, h3⟩, h4⟩

/- ## The loop's record -/
/-- How far the loop is, as the state tells it: ready; in a round; left by 'ret'; left by an exit. -/
def stOf : List (List AV) → LoopState × Option Code
  | [] => (.ready, none)
  | [[]] => (.busy, none)
  | [[.b _]] => (.done, some .ret)
  | [[.i _ n]] => (.done, some (.exit n.toNat))
  | _ => (.busy, none)

def JL (c0 : Ctx) (ys0 : List (List AV)) (l : Nat) (r : Loop) (ys : List (List AV)) (M : Nat → Prop) (w : World) : Prop :=
  c0.J ys0 (fun k => M k ∧ k ≠ l) w ∧ M l ∧ w.heap[l]? = some (.loop { r with state := (stOf ys).1, pending := (stOf ys).2 })

def loopCtx (c0 : Ctx) (ys0 : List (List AV)) (l : Nat) (r : Loop) (pv : List Value) (D0 : List Nat) : Ctx :=
  { c0 with
    r := none, l := l, pv := pv, D0 := D0, J := JL c0 ys0 l r
    Jlt := fun ys M w h k hk => by
      by_cases hkl : k = l
      · subst hkl; exact lt_of_heap h.2.2
      · exact c0.Jlt _ _ _ h.1 k ⟨hk, hkl⟩
    Jst := fun ys M w w' h h1 h2 h3 h4 h5 => ⟨c0.Jst _ _ _ _ h.1 h1 h2 h3 h4 fun k hk => h5 k hk.1, h.2.1, (h5 l h.2.1).trans h.2.2⟩ }

/-- In this context yield leads to a loop's rounds. -/
def IterCtx (c : Ctx) (n : Nat) (ps : Array Tmp) (asg body : Code) : Prop :=
  ∃ c0 ys0 r pv0, c.J = JL c0 ys0 c.l r ∧ c.pv = r.tmps.toList ++ pv0 ∧ r.tmps.size = n ∧ r.params = ps ∧ r.assign = asg ∧ r.body = body

theorem JL_put {c0 : Ctx} {ys0 ys ys' : List (List AV)} {l : Nat} {r : Loop} {M : Nat → Prop} {w : World} (h : JL c0 ys0 l r ys M w) : JL c0 ys0 l r ys' M (w.putObj l (.loop { r with state := (stOf ys').1, pending := (stOf ys').2 })) :=
  ⟨c0.Jst _ _ _ _ h.1 rfl rfl rfl (by simp) fun k hk => World.putObj_heap_other hk.2, h.2.1, World.putObj_heap_same (lt_of_heap h.2.2)⟩

/- ## The iterator -/
def iterSt (n : Nat) (st : St) (caps : List AV) : St := ⟨fillAny n (.yv :: mapK sweepY caps), mapK sweepYB st.boxes, st.rows, [], mapK sweepY (appendList st.tmps st.pin)⟩
def outSt (n : Nat) (ys0 : List (List AV)) (st : St) : St := ⟨mapK sweepY (takeK n st.pin), mapK sweepYB st.boxes, st.rows, ys0, mapK sweepY (dropK n st.pin)⟩
def iterEnd (n : Nat) (ys0 : List (List AV)) (K : Exit → St → Prop) : Exit → St → Prop
  | .normal, st | .ret, st => match st.ys with
    | [] => K .normal (outSt n ys0 st)
    | [[.b _]] => K .ret (outSt n ys0 st)
    | [[.i _ m]] => K (.exit m.toNat) (outSt n ys0 st)
    | _ => False
  | _, _ => False

theorem tr_range {g : Operand} {ps : Array Tmp} {asg body : Code} {f : FuncId} {caps : List AV} {fn : Func} {code : Code} {st : St} {K : Exit → St → Prop} (hr : c.r = none) (hx : opnd st.tmps g = .fn f caps) (hf : P.funcs[f]? = some fn) (hb : fn.body = some code) (hres : fn.results = #[]) (hname : (fn.name == "runtime.NumGoroutine") = false)
    (h : ∀ c2, Kin c c2 → c2.r = none → IterCtx c2 st.tmps.length ps asg body → Tr P c2 code (iterSt fn.ntmps st caps) (iterEnd st.tmps.length st.ys K)) : Tr P c (.rangeFunc g ps asg body) st K := by
  intro e a w hh ht
  rw [hr]
  have hlen := RL_length ht.1
  have hgR := opnd_R ht g
  rw [hx] at hgR
  obtain ⟨vs, hv, hcl⟩ := hgR
  refine wpIn_rangeFunc fun fnid _ => ?_
  let l := w.heap.size + 1
  let rec0 : Loop := { state := .ready, pending := none, fn := fnid, tmps := a.tmps, params := ps, assign := asg, body := body, defers := w.heap.size }
  let w1 := (w.alloc (.deferred (some []))).alloc (.loop rec0)
  have hw1 : ∀ k, k < w.heap.size → w1.heap[k]? = w.heap[k]? := fun k hk => by
    show ((w.heap.push _).push _)[k]? = _
    rw [Array.getElem?_push_lt (by simp; omega), Array.getElem_push_lt (by simpa using hk)]
    exact (Array.getElem?_eq_getElem hk).symm
  have hwD : w1.heap[w.heap.size]? = some (.deferred (some [])) := by
    show ((w.heap.push _).push _)[w.heap.size]? = _
    rw [Array.getElem?_push_lt (by simp)]; simp
  have hwl : w1.heap[l]? = some (.loop rec0) := by
    have := World.alloc_heap_new (w.alloc (.deferred (some []))) (.loop rec0)
    rwa [World.size_alloc] at this
  have hsz : w1.heap.size = w.heap.size + 2 := by show ((w.heap.push _).push _).size = _; simp
  have hbl : Below w.heap.size w w1 := ⟨rfl, rfl, rfl, by omega, hw1⟩
  have hh1 := hh.moved hbl
  let e2 : Env := ⟨e.β, e.ρ, fun k => e.M k ∨ k = l, w.heap.size :: e.D, l⟩
  let c2 := loopCtx c st.ys l rec0 (a.tmps.toList ++ c.pv) (w.heap.size :: e.D)
  have hMl : ∀ k, e.M k → k < w.heap.size := fun k hk => hh.m_lt hk
  have hDl : ∀ D ∈ e.D, D < w.heap.size := fun D hD => lt_of_heap (hh.defd D hD)
  have hpin : RL st e (appendList st.tmps st.pin) (a.tmps.toList ++ c.pv) := by rw [appendK_eq]; exact RL_append ht.1 hh.pin
  have hB : ∀ id bx, getK none st.boxes id = some bx → ∃ bx', getK none (iterSt fn.ntmps st caps).boxes id = some bx' := fun id bx h => by
    show ∃ bx', getK none (mapK sweepYB st.boxes) id = some bx'
    rw [getK_sweepYB, h]; exact ⟨_, rfl⟩
  have hk : Kin c c2 := ⟨rfl, rfl, rfl, rfl⟩
  have hJ0 : c.J st.ys (fun k => (e.M k ∨ k = l) ∧ k ≠ l) w1 := by
    have : (fun k => (e.M k ∨ k = l) ∧ k ≠ l) = e.M := by
      funext k
      refine propext ⟨fun h => h.1.resolve_right h.2, fun h => ⟨.inl h, fun hk => ?_⟩⟩
      have := hMl k h; omega
    rw [this]; exact hh1.out
  have hh2 : HeapOK c2 e2 (iterSt fn.ntmps st caps) w1 := by
    refine HeapOK.hop (c := c) (st := st) (e := e) hk rfl rfl rfl rfl rfl ?_ ?_ ?_ ?_ ?_ ?_ hh1
    · rintro k hk1 hk2 (hk3 | hk3)
      · exact hk1 hk3
      · subst hk3
        rcases hk2 with hk2 | ⟨cs, T, fz, hk2⟩
        · have := hh.base_le; omega
        · rw [hwl] at hk2; cases hk2
    · intro D hD
      rcases List.mem_cons.1 hD with rfl | hD
      · exact ⟨hwD, fun h => by rcases h with h | h; exact absurd (hMl _ h) (Nat.lt_irrefl _); omega, hh.base_le⟩
      · exact ⟨hh1.defd D hD, fun h => by rcases h with h | h; exact (hh.defm D hD).1 h; have := hDl D hD; omega, (hh.defm D hD).2⟩
    · exact List.nodup_cons.2 ⟨fun h => absurd (hDl _ h) (Nat.lt_irrefl _), hh.nd⟩
    · rintro k (h1 | h1)
      · exact hh.mwr k h1
      · subst h1; have := hh.base_le; right; omega
    · exact ⟨hJ0, .inr rfl, hwl⟩
    · exact sweepY_RL (st := st) (e := e) (e' := e2) (st' := iterSt fn.ntmps st caps) hB rfl rfl rfl hpin
  refine ⟨l, [{ target := .collected w.heap.size, args := #[] }], w1, { target := .fn (.func f) vs.toArray, args := #[Value.func (.yield l) #[] #[]] }, w1, f, (#[Value.func (.yield l) #[] #[]] ++ vs.toArray), w1, run_enterLoop_outer _ _ _ _ _, ?_, fun _ _ => trivial, ?_, (fun h' : false = true => by cases h'), ?_⟩
  · simp only [rangeCall, Go.resolve, hv, Deferred.ofValue]
    simp [Act.eval]
  · have hb' : fn.body ≠ none := by intro h'; rw [h'] at hb; cases hb
    have hne : fn.name ≠ "runtime.NumGoroutine" := by simpa using hname
    simp [invoke, callFunc, hf, hne, hb', Act.eval]
  · refine callsIn_of_wp_marks (F := W none) (n := 0) hf hb trivial ?_ rfl
    have ht2 : TmpsOK c2 (iterSt fn.ntmps st caps) e2 { tmps := (#[Value.func (.yield l) #[] #[]] ++ vs.toArray) ++ Array.replicate (fn.ntmps - (#[Value.func (.yield l) #[] #[]] ++ vs.toArray).size) undef, defers := [] } := by
      refine ⟨?_, [], rfl, rfl⟩
      have h1 : RL (iterSt fn.ntmps st caps) e2 (.yv :: mapK sweepY caps) (Value.func (.yield l) #[] #[] :: vs) := ⟨_, _, rfl, rfl, sweepY_RL (st := st) (e := e) (e' := e2) (st' := iterSt fn.ntmps st caps) hB rfl rfl rfl hcl⟩
      have h2 := RL_fillAny fn.ntmps _ _ h1
      show RL _ e2 (fillAny fn.ntmps (.yv :: mapK sweepY caps)) _
      simpa [Nat.add_comm] using h2
    have htr := h c2 hk rfl ⟨c, st.ys, rec0, c.pv, rfl, rfl, by simpa using hlen, rfl, rfl, rfl⟩ e2 _ w1 hh2 ht2
    refine wpIn_mono htr ?_
    have hend : ∀ a1 w3, (∃ st3 e3, HeapOK c2 e3 st3 w3 ∧ TmpsOK c2 st3 e3 a1 ∧ (match st3.ys with
        | [] => K .normal (outSt st.tmps.length st.ys st3)
        | [[.b _]] => K .ret (outSt st.tmps.length st.ys st3)
        | [[.i _ m]] => K (.exit m.toNat) (outSt st.tmps.length st.ys st3)
        | _ => False)) →
        LeavesInM (W none) 0 P fn a1.tmps (rangePost (W none) 0 P l (QK c K) { a with defers := [{ target := .collected w.heap.size, args := #[] }] ++ a.defers }) a1.defers .returning w3 := by
      rintro a1 w3 ⟨st3, e3, hh3, ⟨_, own, hD, hdf⟩, hpost⟩
      rw [hdf]
      refine leaves_ok own e3 w3 hh3 hD (fun w4 hh4 => ?_)
      refine ⟨.tuple #[], by rw [results_eq, hres]; simp, ?_⟩
      have hout := hh4.out
      have hMl4 : e3.M l := hout.2.1
      have hl4 := hout.2.2
      -- back in the activation
      let e4 : Env := ⟨e3.β, e3.ρ, fun k => e3.M k ∧ k ≠ l, w.heap.size :: e.D, e.l⟩
      have hnb : ∀ id bx, getK none st3.boxes id = some bx → ∃ bx', getK none (outSt st.tmps.length st.ys st3).boxes id = some bx' := fun id bx h => by
        show ∃ bx', getK none (mapK sweepYB st3.boxes) id = some bx'
        rw [getK_sweepYB, h]; exact ⟨_, rfl⟩
      obtain ⟨hp1, hp2⟩ := RL_split st.tmps.length st3.pin _ _ hlen hh4.pin
      have hh5 : HeapOK c e4 (outSt st.tmps.length st.ys st3) w4 := by
        refine HeapOK.hop (c := c2) (st := st3) (e := ⟨e3.β, e3.ρ, e3.M, c2.D0, e3.l⟩) ⟨rfl, rfl, rfl, rfl⟩ rfl rfl rfl rfl hh.yl ?_ ?_ ?_ ?_ ?_ ?_ hh4
        · exact fun k h1 _ h2 => h1 h2.1
        · intro D hD
          have h1 := hh4.defm D hD
          exact ⟨hh4.defd D hD, fun h2 => h1.1 h2.1, h1.2⟩
        · exact hh4.nd
        · exact fun k h1 => hh4.mwr k h1.1
        · exact hout.1
        · exact sweepY_RL (st := st3) (e := ⟨e3.β, e3.ρ, e3.M, c2.D0, e3.l⟩) (e' := e4) (st' := outSt st.tmps.length st.ys st3) hnb rfl rfl rfl hp2
      have hbase : c.base ≤ l := by have := hh.base_le; omega
      have ht5 : ∀ K'' : Exit → St → Prop, TmpsOK c (outSt st.tmps.length st.ys st3) e4 { a with defers := [{ target := .collected w.heap.size, args := #[] }] ++ a.defers } := fun _ => by
        obtain ⟨own0, h1, h2⟩ := ht.2
        refine ⟨sweepY_RL (st := st3) (e := ⟨e3.β, e3.ρ, e3.M, c2.D0, e3.l⟩) (e' := e4) (st' := outSt st.tmps.length st.ys st3) hnb rfl rfl rfl hp1, w.heap.size :: own0, ?_, ?_⟩
        · show w.heap.size :: e.D = _; rw [h1]; rfl
        · rw [h2]; rfl
      have hh6 : ∀ o, HeapOK c e4 (outSt st.tmps.length st.ys st3) (w4.putObj l o) := fun o => hh5.dead hl4 ⟨.inl hbase, fun h => h.2 rfl⟩
      split at hpost
      · rename_i hys
        refine ⟨none, _, run_endLoop hl4 (by rw [hys]; simp [stOf]) |>.trans (by rw [hys]; rfl), ?_⟩
        exact ⟨_, e4, hh6 _, ht5 K, hpost⟩
      · rename_i b hys
        refine ⟨some .ret, _, run_endLoop hl4 (by rw [hys]; simp [stOf]) |>.trans (by rw [hys]; rfl), ?_⟩
        exact wpIn_ret ⟨_, e4, hh6 _, ht5 K, hpost⟩
      · rename_i k m hys
        refine ⟨some (.exit m.toNat), _, run_endLoop hl4 (by rw [hys]; simp [stOf]) |>.trans (by rw [hys]; rfl), ?_⟩
        exact wpIn_exit ⟨_, e4, hh6 _, ht5 K, hpost⟩
      · exact hpost.elim
    intro ex a1 w3 hq
    cases ex with
    | normal => obtain ⟨st3, e3, h1, h2, h3⟩ := hq; exact hend a1 w3 ⟨st3, e3, h1, h2, h3⟩
    | ret => obtain ⟨st3, e3, h1, h2, h3⟩ := hq; exact hend a1 w3 ⟨st3, e3, h1, h2, h3⟩
    | exit id => obtain ⟨st3, e3, h1, h2, h3⟩ := hq; exact h3.elim
    | goto l => obtain ⟨st3, e3, h1, h2, h3⟩ := hq; exact h3.elim
    | panic ch => exact hq.elim
    | outgrown => exact hq.elim

/- ## A round -/
def setMany : List AV → List Nat → List AV → List AV
  | ts, p :: ps, v :: vs => setMany (backSt.setAt ts p v) ps vs
  | ts, _, _ => ts
def roundSt (n : Nat) (ps : List Nat) (avs : List AV) (st : St) : St := ⟨setMany (takeK n st.pin) ps avs, st.boxes, st.rows, [], appendList st.tmps st.pin⟩
def ySt (ys : List (List AV)) (st : St) : St := ⟨st.tmps, st.boxes, st.rows, ys, st.pin⟩
def roundEnd (m : Nat) (wr : Bool) (dst : Option Tmp) (k : St → Prop) : Exit → St → Prop
  | .normal, st => (match st.ys with | [[]] => k (ySt [] (backSt m dst (wrapO wr (.b true)) st)) | _ => False)
  | .ret, st => (match st.ys with | [[]] => k (ySt [[.b true]] (backSt m dst (wrapO wr (.b false)) st)) | _ => False)
  | .exit n, st => (match st.ys with | [[]] => k (ySt [[.i .i64 n]] (backSt m dst (wrapO wr (.b false)) st)) | _ => False)
  | _, _ => False
def asgEnd (k : St → Prop) : Exit → St → Prop
  | .normal, st => (match st.ys with | [] => k (ySt [[]] st) | _ => False)
  | _, _ => False

theorem setMany_RL {st : St} {e : Env} : ∀ (ps : List Nat) (ts avs : List AV) (tmps : Array Value) (vals : List Value), RL st e ts tmps.toList → RL st e avs vals → vals.length = ps.length →
    RL st e (setMany ts ps avs) ((ps.zip vals).foldl (fun tmps (p : Nat × Value) => tmps.setIfInBounds p.1 p.2) tmps).toList := by
  intro ps
  induction ps with
  | nil => intro ts avs tmps vals h _ _; cases avs <;> exact h
  | cons p ps ih =>
    intro ts avs tmps vals h1 h2 hn
    cases vals with
    | nil => simp at hn
    | cons v vals =>
      cases avs with
      | nil => simp [RL] at h2
      | cons av avs =>
        obtain ⟨u, us, h3, h4, h5⟩ := h2
        cases h3
        simp only [setMany, List.zip_cons_cons, List.foldl_cons]
        refine ih _ _ _ _ ?_ h5 (by simpa using hn)
        rw [setAt_eq, Array.toList_setIfInBounds]
        exact RL_set h1 p h4

theorem yield_one {o : Oper} {x : Operand} {args : Array Operand} {tys : Array TypeId} {st : St} {k : St → Prop} {n : Nat} {ps : Array Tmp} {asg body : Code} (wr : Bool) (hI : IterCtx c n ps asg body) (ho : o.op = .call ⟨.value x, args, tys⟩)
    (hx : (unopt true (opnd st.tmps x)).2 = .yv) (hys : st.ys = []) (hn : args.size = ps.size)
    (h : conjP (optOf st.tmps true o.op.operands.toList) (∀ c3, Kin c c3 → Tr P c3 asg (roundSt n ps.toList (mapK (fun y => (unopt true (opnd st.tmps y)).2) args.toList) st) (asgEnd fun st1 => Tr P c3 body st1 (roundEnd st.tmps.length wr o.dst k)))) : TrOne P c o st k := by
  intro e a w K' Q hh ht hK
  rw [conjP_iff] at h
  obtain ⟨hp, h⟩ := h
  have hop : ∀ y ∈ o.op.operands.toList, R st e (unopt true (opnd st.tmps y)).2 (a.eval y) := fun y hy => unopt_R (g := true) (opnd_R ht y) rfl (optOf_spec hp y hy)
  rw [ho] at hop
  simp only [Op.operands, Call.operands] at hop
  have hxR := hop x (by simp)
  rw [hx] at hxR
  have hxv : a.eval x = .func (.yield c.l) #[] #[] := by rw [← hh.yl]; exact hxR
  have hargs : RL st e (mapK (fun y => (unopt true (opnd st.tmps y)).2) args.toList) (args.toList.map a.eval) := by
    rw [mapK_eq]
    exact RL_map fun y hy => hop y (by simp; exact .inr (by simpa using hy))
  have hlen := RL_length ht.1
  obtain ⟨c0, ys0, r, pv0, hJ, hpv, hrn, hps, rfl, rfl⟩ := hI
  have hout := hh.out
  rw [hJ, hys] at hout
  have hl0 := hout.2.2
  have hpin := hh.pin
  rw [hpv] at hpin
  obtain ⟨hp1, hp2⟩ := RL_split n st.pin _ _ (by simpa using hrn) hpin
  let c3 : Ctx := { c with r := some c.l, pv := a.tmps.toList ++ c.pv, D0 := e.D }
  have hk : Kin c c3 := ⟨rfl, rfl, rfl, rfl⟩
  have hd : ∀ cl, o.op ≠ .defer cl := fun cl hcl => by rw [ho] at hcl; cases hcl
  refine ⟨fun _ _ => trivial, ?_⟩
  rw [Oper.semAt_plain (W c.r) a.eval o hd]
  have hrun : (execOp a.eval o).run P w = .ok (.round c.l r.fn ((ps.zip (args.map a.eval)).foldl (fun tmps (t, a) => tmps.setIfInBounds t a) r.tmps) r.assign r.body) w := by
    have hy := run_yield (P := P) (args := args.map a.eval) hl0 (by simp only [Array.size_map, hps]; exact hn)
    simp only [execOp, ho, Go.resolve, hxv, Deferred.ofValue, invoke]
    simp [hy, hps]
  rw [hrun]
  refine ⟨(fun h' => by cases h'), ?_⟩
  refine roundIn_of_wpIn trivial ?_
  have hh3 : HeapOK c3 e (roundSt n ps.toList (mapK (fun y => (unopt true (opnd st.tmps y)).2) args.toList) st) w := by
    refine HeapOK.kin (c := c) (st := st) (e := e) hk rfl rfl ⟨rfl, rfl, rfl, rfl⟩ rfl rfl ?_ ?_ hh
    · show c.J [] e.M w; rw [← hys]; exact hh.out
    · refine RL_st (st := st) rfl rfl ?_
      show RL st e (appendList st.tmps st.pin) (a.tmps.toList ++ c.pv)
      rw [appendK_eq]; exact RL_append ht.1 hh.pin
  have ht3 : TmpsOK c3 (roundSt n ps.toList (mapK (fun y => (unopt true (opnd st.tmps y)).2) args.toList) st) e { tmps := (ps.zip (args.map a.eval)).foldl (fun tmps (t, a) => tmps.setIfInBounds t a) r.tmps, defers := [] } := by
    refine ⟨?_, [], rfl, rfl⟩
    refine RL_st (st := st) rfl rfl ?_
    have := setMany_RL ps.toList (takeK n st.pin) _ r.tmps _ hp1 hargs (by simpa using hn)
    show RL st e (setMany (takeK n st.pin) ps.toList (mapK (fun y => (unopt true (opnd st.tmps y)).2) args.toList)) _
    rw [← Array.foldl_toList]
    simpa using this
  have htr := h c3 hk e _ w hh3 ht3
  refine wpIn_mono htr ?_
  intro ex a1 w1 hq
  cases ex with
  | normal =>
    obtain ⟨st1, e1, hh1, ht1, hq⟩ := hq
    simp only [asgEnd] at hq
    split at hq
    · rename_i hys1
      have hout1 : JL c0 ys0 c.l r [] e1.M w1 := by have := hh1.out; rw [hys1] at this; rw [← hJ]; exact this
      have hDl : ∀ {ys' : List (List AV)} {st' : St} {e' : Env} {w' : World}, HeapOK c3 e' st' w' → JL c0 ys0 c.l r ys' e'.M w' → ∀ D ∈ e'.D, D ≠ c.l := fun hh' hj D hD h => by
        have h1 := hh'.defd D hD
        rw [h, hj.2.2] at h1; cases h1
      refine ⟨_, run_beginRound hout1.2.2 rfl, ?_⟩
      have hh2 : HeapOK c3 e1 (ySt [[]] st1) (w1.putObj c.l (.loop { r with state := .busy, pending := none })) :=
        hh1.looped hout1.2.1 (hDl hh1 hout1) (by show c.J _ _ _; rw [hJ]; exact JL_put (ys' := [[]]) hout1)
      have ht2 : TmpsOK c3 (ySt [[]] st1) e1 a1 := ⟨RL_st (st := st1) rfl rfl ht1.1, ht1.2⟩
      have htb := hq e1 a1 _ hh2 ht2
      refine wpIn_mono htb ?_
      have hend : ∀ (j : Option Code) (ys' : List (List AV)) (b : Bool) (a2 : Act) (w2 : World) (st2 : St) (e2 : Env), HeapOK c3 e2 st2 w2 → TmpsOK c3 st2 e2 a2 → st2.ys = [[]] → b = j.isNone → stOf ys' = (if j.isNone then .ready else .done, j) →
          k (ySt ys' (backSt st.tmps.length o.dst (wrapO wr (.b b)) st2)) → ∃ v w', (Instr.endRound c.l j).run P w2 = .ok v w' ∧ (match Ending.returned v with
            | .returned v => K' (a.put o.dst v) w'
            | .panicked chain => Q (.panic chain) a w'
            | .outgrown => LetsOut Q) := by
        intro j ys' b a2 w2 st2 e2 hh4 ht4 hys2 hb hst hk4
        have hout4 : JL c0 ys0 c.l r [[]] e2.M w2 := by have := hh4.out; rw [hys2] at this; rw [← hJ]; exact this
        refine ⟨_, _, run_endRound j hout4.2.2, ?_⟩
        have hput := JL_put (ys' := ys') hout4
        rw [hst] at hput
        have hh5 : HeapOK c3 e2 (ySt ys' st2) _ := hh4.looped hout4.2.1 (hDl hh4 hout4) (by show c.J _ _ _; rw [hJ]; exact hput)
        obtain ⟨own, hD, _⟩ := ht4.2
        have hh6 := hh5.lessD hD
        obtain ⟨hq1, hq2⟩ := RL_split st.tmps.length st2.pin _ _ hlen hh4.pin
        have hone : R st2 ⟨e2.β, e2.ρ, e2.M, e.D, e2.l⟩ (wrapO wr (.b b)) (.bool j.isNone) := wrapO_R wr (by rw [hb]; rfl)
        refine hK (ySt ys' (backSt st.tmps.length o.dst (wrapO wr (.b b)) st2)) ⟨e2.β, e2.ρ, e2.M, e.D, e2.l⟩ _ _ ?_ ?_ hk4
        · refine HeapOK.kin (c := c3) (c' := c) (st := ySt ys' st2) (e := ⟨e2.β, e2.ρ, e2.M, e.D, e2.l⟩) ⟨rfl, rfl, rfl, rfl⟩ ?_ ?_ ⟨rfl, rfl, rfl, rfl⟩ rfl rfl ?_ ?_ hh6
          · unfold backSt; cases o.dst <;> rfl
          · unfold backSt; cases o.dst <;> rfl
          · exact hh6.out
          · unfold backSt; cases o.dst <;> exact RL_D (RL_st (st := st2) rfl rfl hq2)
        · refine ⟨?_, by cases o.dst <;> exact ht.2⟩
          have h3 := put_dst (a := a) o.dst (RL_D (Ds := e.D) hq1) hone
          unfold backSt
          cases hd : o.dst with
          | none => rw [hd] at h3; exact RL_st (st := st2) rfl rfl h3
          | some d => rw [hd] at h3; exact RL_st (st := st2) rfl rfl h3
      intro ex a2 w2 hq2
      cases ex with
      | normal =>
        obtain ⟨st2, e2, h1, h2, h3⟩ := hq2
        simp only [roundEnd] at h3
        split at h3
        · rename_i hy; exact hend none [] true a2 w2 st2 e2 h1 h2 hy rfl rfl h3
        · exact h3.elim
      | ret =>
        obtain ⟨st2, e2, h1, h2, h3⟩ := hq2
        simp only [roundEnd] at h3
        split at h3
        · rename_i hy; exact hend (some .ret) [[.b true]] false a2 w2 st2 e2 h1 h2 hy rfl rfl h3
        · exact h3.elim
      | exit id =>
        obtain ⟨st2, e2, h1, h2, h3⟩ := hq2
        simp only [roundEnd] at h3
        split at h3
        · rename_i hy; exact hend (some (.exit id)) [[.i .i64 id]] false a2 w2 st2 e2 h1 h2 hy rfl rfl h3
        · exact h3.elim
      | goto l => obtain ⟨st2, e2, h1, h2, h3⟩ := hq2; exact h3.elim
      | panic ch => exact hq2.elim
      | outgrown => exact hq2.elim
    · exact hq.elim
  | exit id => obtain ⟨st1, e1, _, _, h3⟩ := hq; exact h3.elim
  | ret => obtain ⟨st1, e1, _, _, h3⟩ := hq; exact h3.elim
  | goto l => obtain ⟨st1, e1, _, _, h3⟩ := hq; exact h3.elim
  | panic ch => exact hq.elim
  | outgrown => exact hq.elim
end
end Go.X

namespace Go.X
open Go.RowKit

def valRV : RV → Option Value
  | .a (.i k n) => some (.int k n)
  | .a (.b x) => some (.bool x)
  | .a (.s x) => some (.string x)
  | .fn f [] => some (.func (.func f) #[] #[])
  | _ => none
def valsRV : List RV → Option (List Value)
  | [] => some []
  | r :: l => match valRV r with
    | some v => match valsRV l with | some vs => some (v :: vs) | none => none
    | none => none

section
variable {P : Program} {G : Nat → World → Prop}

theorem valRV_R {st : St} {e : Env} {v : AV} {rv : RV} {x u : Value} (hres : resolve st v = some rv) (hv : valRV rv = some u) (h : R st e v x) : x = u := by
  unfold resolve at hres
  generalize (200 : Nat) = n at hres
  cases n with
  | zero => simp [resolveF] at hres
  | succ n =>
  cases v with
  | i k n => simp only [resolveF, Option.some.injEq] at hres; subst hres; cases hv; exact h
  | b y => simp only [resolveF, Option.some.injEq] at hres; subst hres; cases hv; exact h
  | s y => simp only [resolveF, Option.some.injEq] at hres; subst hres; cases hv; exact h
  | fn f l =>
    simp only [resolveF] at hres
    split at hres
    · rename_i m hm
      cases hres
      cases m with
      | cons _ _ => simp [valRV] at hv
      | nil =>
        cases hv
        cases l with
        | nil => obtain ⟨vs, h1, h2⟩ := h; simp only [RL] at h2; subst h2; exact h1
        | cons y l =>
          cases n with
          | zero => simp [resolveFL] at hm
          | succ n =>
          simp only [resolveFL] at hm
          split at hm
          · split at hm <;> cases hm
          · cases hm
    · cases hres
  | _ =>
    simp only [resolveF] at hres
    first
      | (cases hres; done)
      | (cases hres; simp [valRV] at hv; done)
      | (split at hres <;> first | (cases hres; done) | (split at hres <;> first | (cases hres; done) | (cases hres; simp [valRV] at hv; done)) | (cases hres; simp [valRV] at hv; done))

theorem valsRV_RL {st : St} {e : Env} : ∀ (l : List AV) (rvs : List RV) (xs us : List Value), allRes (resolve st) l = some rvs → valsRV rvs = some us → RL st e l xs → xs = us := by
  intro l
  induction l with
  | nil => intro rvs xs us h1 h2 h3; simp only [allRes, Option.some.injEq] at h1; subst h1; simp only [valsRV, Option.some.injEq] at h2; subst h2; exact h3
  | cons v l ih =>
    intro rvs xs us h1 h2 h3
    simp only [allRes] at h1
    split at h1
    · rename_i r hr
      split at h1
      · rename_i m hm
        cases h1
        simp only [valsRV] at h2
        split at h2
        · rename_i u hu
          split at h2
          · rename_i us' hus
            cases h2
            obtain ⟨x, xs', rfl, h4, h5⟩ := h3
            rw [valRV_R hr hu h4, ih _ _ _ hm hus h5]
          · cases h2
        · cases h2
      · cases h1
    · cases h1

theorem con_ext {f : FuncId} {con : Con} {fn : Func} (hf : P.funcs[f]? = some fn) (hb : fn.body.isSome = true) (hname : (fn.name == "runtime.NumGoroutine") = false)
    (h : ∀ rvs cr, con rvs = some cr → (∀ p ∈ cr.pre, p) → ∃ us u av, valsRV rvs = some us ∧ cr = ⟨cr.pre, .a av, [], []⟩ ∧ (∀ st e, R st e av u) ∧ ∀ g0 w, g0 ≤ w.heap.size → G g0 w → Calls P f us.toArray w fun e w' => e = .returned u ∧ Below w.heap.size w w') : ConOK P G f con := by
  intro c e st w avs rvs cr vals fb fr hG hh hres hargs hcr hpre _ _
  refine ⟨⟨fn, hf, hb, hname⟩, ?_⟩
  obtain ⟨us, u, av, h1, h2, h3, h4⟩ := h rvs cr hcr hpre
  rw [valsRV_RL _ _ _ _ hres h1 hargs]
  refine (h4 c.g0 w (Nat.le_trans c.g0_le hh.base_le) hG).mono ?_
  rintro en w' ⟨rfl, hbl⟩
  rw [h2]
  refine ⟨u, e, rfl, hh.moved hbl, pres_refl, h3 _ _⟩
end
end Go.X

namespace Go.X
open Go.RowKit

def topCtx (g0 : Nat) (w : World) (h : g0 ≤ w.heap.size) : Ctx where
  base := w.heap.size
  wr := fun _ => False
  w0 := w
  size := rfl
  g0 := g0
  g0_le := h
  wr_ge := fun _ h => h.elim
  r := none
  l := 0
  pv := []
  D0 := []
  J := fun _ M _ => ∀ k, ¬ M k
  Jlt := fun _ _ _ h k hk => absurd hk (h k)
  Jst := fun _ _ _ _ h _ _ _ _ _ => h
def st0 : St := ⟨[], [], [], [], []⟩
def e0 : Env := ⟨fun _ => 0, fun _ => undef, fun _ => False, [], 0⟩

theorem top_ok {g0 : Nat} {w : World} (h : g0 ≤ w.heap.size) : HeapOK (topCtx g0 w h) e0 st0 w :=
  ⟨⟨rfl, rfl, rfl, Nat.le_refl _, fun _ _ _ => rfl⟩, fun i b hi => by simp [st0, getK] at hi, fun i b hi => by simp [st0, getK] at hi, fun i j g hi => by simp [blkB, st0, getK] at hi, fun i j g hi => by simp [blkR, st0, getK] at hi, fun i j g hi => by simp [blkB, st0, getK] at hi,
    fun k h => h, fun D hD => by simp [e0] at hD, fun D hD => by simp [e0] at hD, fun k h => h.elim, rfl, by simp [e0], rfl⟩

theorem top_below {g0 : Nat} {w w' : World} {h : g0 ≤ w.heap.size} (hf : Frame (topCtx g0 w h) w') : Below w.heap.size w w' :=
  ⟨hf.os, hf.tape, hf.output, hf.size, fun k hk => hf.block k hk (fun h => h)⟩

/-- A contract, from outside. -/
theorem con_calls {P : Program} {G : Nat → World → Prop} {f : FuncId} {con : Con} {w : World} {g0 : Nat} {avs : List AV} {rvs : List RV} {cr : CR} {vals : List Value} (hC : ConOK P G f con) (hg : g0 ≤ w.heap.size) (hG : G g0 w)
    (hres : allRes (resolve st0) avs = some rvs) (hR : RL st0 e0 avs vals) (hcr : con rvs = some cr) (hpre : ∀ p ∈ cr.pre, p) :
    Calls P f vals.toArray w fun en w' => ∃ v e', en = .returned v ∧ HeapOK (topCtx g0 w hg) e' ((cr.eff 0 0).apply 0 0 st0) w' ∧ R ((cr.eff 0 0).apply 0 0 st0) e' (cr.res.inst 0 0).1 v := by
  refine (hC (topCtx g0 w hg) e0 st0 w avs rvs cr vals 0 0 hG (top_ok hg) hres hR hcr hpre (fun j _ _ => by simp [st0, getK]) (fun j _ _ => by simp [st0, getK])).2.mono ?_
  rintro en w' ⟨v, e', h1, h2, _, h4⟩
  exact ⟨v, e', h1, h2, h4⟩
end Go.X

namespace Go.Proofs
open Go.Shelf
def Tryz.lays128_ren : Go.Shelf.Ren := ⟨fun | 128 => 136 | n => n, fun | 51 => 113 | 3 => 3 | 4 => 4 | 46 => 91 | 5 => 5 | 9 => 9 | n => n, fun | n => n⟩
theorem Tryz.lays128 : Go.Proofs.Lays.n128 Tryz.prog Tryz.lays128_ren := {
  mixed := by kernel_rfl
  f128 := Tryz.func136.trans (congrArg some (by kernel_rfl))
  t3 := Tryz.underlying3
  a3 := Tryz.isAgg3
  z3 := Tryz.sizeOf3
  v3 := Tryz.zeroValue3
  t4 := Tryz.underlying4
  a4 := Tryz.isAgg4
  z4 := Tryz.sizeOf4
  v4 := Tryz.zeroValue4
  t5 := Tryz.underlying5
  a5 := Tryz.isAgg5
  z5 := Tryz.sizeOf5
  v5 := Tryz.zeroValue5
  t9 := Tryz.underlying9
  a9 := Tryz.isAgg9
  z9 := Tryz.sizeOf9
  v9 := Tryz.zeroValue9
  t46 := Tryz.underlying91
  a46 := Tryz.isAgg91
  z46 := Tryz.sizeOf91
  v46 := Tryz.zeroValue91
  t51 := Tryz.underlying113
  a51 := Tryz.isAgg113
  z51 := Tryz.sizeOf113
  v51 := Tryz.zeroValue113 }
/-- bits.Len32: "Len32 returns the minimum number of bits required to represent x; the result is 0 for x == 0.": IT RETURNS 'Lib.bitLen x'; the world is as it was. ('h0', 'h1': x is a uint32.) (LAID: no walk: one application.) -/
theorem Tryz.bits_Len32 (x : Int) (w : World) (h0 : 0 ≤ x) (h1 : x ≤ 4294967295) :
    Calls Tryz.prog 136 #[.int .u32 x] w fun e w' => e = .returned (.int .i64 (Lib.bitLen x.toNat)) ∧ w' = w := Any.bits_Len32 Tryz.lays128 x w h0 h1
def Tryz.lays125_ren : Go.Shelf.Ren := ⟨fun | 125 => 98 | 128 => 136 | 129 => 137 | n => n, fun | 46 => 91 | 3 => 3 | 51 => 113 | 53 => 66 | 4 => 4 | 5 => 5 | 9 => 9 | n => n, fun | n => n⟩
theorem Tryz.lays125 : Go.Proofs.Lays.n125 Tryz.prog Tryz.lays125_ren := {
  mixed := by kernel_rfl
  f125 := Tryz.func98.trans (congrArg some (by kernel_rfl))
  f128 := Tryz.func136.trans (congrArg some (by kernel_rfl))
  f129 := Tryz.func137.trans (congrArg some (by kernel_rfl))
  t3 := Tryz.underlying3
  a3 := Tryz.isAgg3
  z3 := Tryz.sizeOf3
  v3 := Tryz.zeroValue3
  t4 := Tryz.underlying4
  a4 := Tryz.isAgg4
  z4 := Tryz.sizeOf4
  v4 := Tryz.zeroValue4
  t5 := Tryz.underlying5
  a5 := Tryz.isAgg5
  z5 := Tryz.sizeOf5
  v5 := Tryz.zeroValue5
  t9 := Tryz.underlying9
  a9 := Tryz.isAgg9
  z9 := Tryz.sizeOf9
  v9 := Tryz.zeroValue9
  t46 := Tryz.underlying91
  a46 := Tryz.isAgg91
  z46 := Tryz.sizeOf91
  v46 := Tryz.zeroValue91
  t51 := Tryz.underlying113
  a51 := Tryz.isAgg113
  z51 := Tryz.sizeOf113
  v51 := Tryz.zeroValue113
  t53 := Tryz.underlying66
  a53 := Tryz.isAgg66
  z53 := Tryz.sizeOf66
  v53 := Tryz.zeroValue66 }
/-- bits.Len: "Len returns the minimum number of bits required to represent x; the result is 0 for x == 0.": IT RETURNS 'Lib.bitLen x'; the world is as it was. (A uint has 64 bits in the model.) ITS CALLEE bits.Len64 IS MET BY ITS OWN CONTRACT OFF THE SHELF (lay that first). (LAID: no walk: one application.) -/
theorem Tryz.bits_Len (x : Int) (w : World) (h0 : 0 ≤ x) (h1 : x ≤ 18446744073709551615) :
    Calls Tryz.prog 98 #[.int .u64 x] w fun e w' => e = .returned (.int .i64 (Lib.bitLen x.toNat)) ∧ w' = w := Any.bits_Len Tryz.lays125 x w h0 h1
def Tryz.lays137_ren : Go.Shelf.Ren := ⟨fun | 137 => 49 | 217 => 73 | 266 => 101 | n => n, fun | 9 => 9 | 5 => 5 | 3 => 3 | n => n, fun | n => n⟩
theorem Tryz.lays137 : Go.Proofs.Lays.n137 Tryz.prog Tryz.lays137_ren := {
  mixed := by kernel_rfl
  f137 := Tryz.func49.trans (congrArg some (by kernel_rfl))
  f217 := Tryz.func73.trans (congrArg some (by kernel_rfl))
  f266 := Tryz.func101.trans (congrArg some (by kernel_rfl))
  t3 := Tryz.underlying3
  a3 := Tryz.isAgg3
  z3 := Tryz.sizeOf3
  v3 := Tryz.zeroValue3
  t5 := Tryz.underlying5
  a5 := Tryz.isAgg5
  z5 := Tryz.sizeOf5
  v5 := Tryz.zeroValue5
  t9 := Tryz.underlying9
  a9 := Tryz.isAgg9
  z9 := Tryz.sizeOf9
  v9 := Tryz.zeroValue9 }
open Go.RowKit in
/-- strings.IndexByte: "IndexByte returns the index of the first instance of c in s, or -1 if c is not present in s.": IT RETURNS 'Lib.indexByte s c'; the world is as it was. (LAID: no walk: one application.) -/
theorem Tryz.strings_IndexByte (s : ByteArray) (c : Int) (w : World) :
    Calls Tryz.prog 49 #[.string s, .int .u8 c] w fun e w' => e = .returned (.int .i64 (Lib.indexByte s.data.toList c.toNat.toUInt8)) ∧ w' = w := Any.strings_IndexByte Tryz.lays137 s c w
def Tryz.lays129_ren : Go.Shelf.Ren := ⟨fun | 129 => 137 | n => n, fun | 53 => 66 | 3 => 3 | 4 => 4 | 46 => 91 | 5 => 5 | 9 => 9 | n => n, fun | n => n⟩
theorem Tryz.lays129 : Go.Proofs.Lays.n129 Tryz.prog Tryz.lays129_ren := {
  mixed := by kernel_rfl
  f129 := Tryz.func137.trans (congrArg some (by kernel_rfl))
  t3 := Tryz.underlying3
  a3 := Tryz.isAgg3
  z3 := Tryz.sizeOf3
  v3 := Tryz.zeroValue3
  t4 := Tryz.underlying4
  a4 := Tryz.isAgg4
  z4 := Tryz.sizeOf4
  v4 := Tryz.zeroValue4
  t5 := Tryz.underlying5
  a5 := Tryz.isAgg5
  z5 := Tryz.sizeOf5
  v5 := Tryz.zeroValue5
  t9 := Tryz.underlying9
  a9 := Tryz.isAgg9
  z9 := Tryz.sizeOf9
  v9 := Tryz.zeroValue9
  t46 := Tryz.underlying91
  a46 := Tryz.isAgg91
  z46 := Tryz.sizeOf91
  v46 := Tryz.zeroValue91
  t53 := Tryz.underlying66
  a53 := Tryz.isAgg66
  z53 := Tryz.sizeOf66
  v53 := Tryz.zeroValue66 }
/-- bits.Len64: "Len64 returns the minimum number of bits required to represent x; the result is 0 for x == 0.": IT RETURNS 'Lib.bitLen x'; the world is as it was. ('h0', 'h1': x is a uint64.) (LAID: no walk: one application.) -/
theorem Tryz.bits_Len64 (x : Int) (w : World) (h0 : 0 ≤ x) (h1 : x ≤ 18446744073709551615) :
    Calls Tryz.prog 137 #[.int .u64 x] w fun e w' => e = .returned (.int .i64 (Lib.bitLen x.toNat)) ∧ w' = w := Any.bits_Len64 Tryz.lays129 x w h0 h1
def Tryz.lays217_ren : Go.Shelf.Ren := ⟨fun | 217 => 73 | 266 => 101 | n => n, fun | 9 => 9 | 5 => 5 | 3 => 3 | n => n, fun | n => n⟩
theorem Tryz.lays217 : Go.Proofs.Lays.n217 Tryz.prog Tryz.lays217_ren := {
  mixed := by kernel_rfl
  f217 := Tryz.func73.trans (congrArg some (by kernel_rfl))
  f266 := Tryz.func101.trans (congrArg some (by kernel_rfl))
  t3 := Tryz.underlying3
  a3 := Tryz.isAgg3
  z3 := Tryz.sizeOf3
  v3 := Tryz.zeroValue3
  t5 := Tryz.underlying5
  a5 := Tryz.isAgg5
  z5 := Tryz.sizeOf5
  v5 := Tryz.zeroValue5
  t9 := Tryz.underlying9
  a9 := Tryz.isAgg9
  z9 := Tryz.sizeOf9
  v9 := Tryz.zeroValue9 }
open Go.RowKit Go.Lib in
/-- internal/stringslite.IndexByte (what strings.IndexByte calls): IT RETURNS 'Lib.indexByte s c'; the world is as it was. (LAID: no walk: one application.) -/
theorem Tryz.stringslite_IndexByte (s : ByteArray) (c : Int) (w : World) :
    Calls Tryz.prog 73 #[.string s, .int .u8 c] w fun e w' => e = .returned (.int .i64 (Lib.indexByte s.data.toList c.toNat.toUInt8)) ∧ w' = w := Any.stringslite_IndexByte Tryz.lays217 s c w
def Tryz.lays189_ren : Go.Shelf.Ren := ⟨fun | 189 => 69 | 125 => 98 | 257 => 97 | 128 => 136 | 129 => 137 | 294 => 127 | 295 => 128 | 296 => 129 | 297 => 130 | 298 => 131 | 299 => 132 | 216 => 133 | 300 => 134 | 301 => 135 | 328 => 148 | 329 => 149 | 330 => 150 | 331 => 151 | 332 => 152 | 215 => 153 | 343 => 158 | n => n, fun | 28 => 39 | 3 => 3 | 46 => 91 | 0 => 0 | 51 => 113 | 53 => 66 | 4 => 4 | 183 => 106 | 182 => 105 | 131 => 110 | 5 => 5 | 9 => 9 | 218 => 121 | 222 => 125 | 228 => 130 | 229 => 131 | n => n, fun | n => n⟩
theorem Tryz.lays189 : Go.Proofs.Lays.n189 Tryz.prog Tryz.lays189_ren := {
  mixed := by kernel_rfl
  f125 := Tryz.func98.trans (congrArg some (by kernel_rfl))
  f128 := Tryz.func136.trans (congrArg some (by kernel_rfl))
  f129 := Tryz.func137.trans (congrArg some (by kernel_rfl))
  f189 := Tryz.func69.trans (congrArg some (by kernel_rfl))
  f215 := Tryz.func153.trans (congrArg some (by kernel_rfl))
  f216 := Tryz.func133.trans (congrArg some (by kernel_rfl))
  f257 := Tryz.func97.trans (congrArg some (by kernel_rfl))
  f294 := Tryz.func127.trans (congrArg some (by kernel_rfl))
  f295 := Tryz.func128.trans (congrArg some (by kernel_rfl))
  f296 := Tryz.func129.trans (congrArg some (by kernel_rfl))
  f297 := Tryz.func130.trans (congrArg some (by kernel_rfl))
  f298 := Tryz.func131.trans (congrArg some (by kernel_rfl))
  f299 := Tryz.func132.trans (congrArg some (by kernel_rfl))
  f300 := Tryz.func134.trans (congrArg some (by kernel_rfl))
  f301 := Tryz.func135.trans (congrArg some (by kernel_rfl))
  f328 := Tryz.func148.trans (congrArg some (by kernel_rfl))
  f329 := Tryz.func149.trans (congrArg some (by kernel_rfl))
  f330 := Tryz.func150.trans (congrArg some (by kernel_rfl))
  f331 := Tryz.func151.trans (congrArg some (by kernel_rfl))
  f332 := Tryz.func152.trans (congrArg some (by kernel_rfl))
  f343 := Tryz.func158.trans (congrArg some (by kernel_rfl))
  t0 := Tryz.underlying0
  a0 := Tryz.isAgg0
  z0 := Tryz.sizeOf0
  v0 := Tryz.zeroValue0
  t3 := Tryz.underlying3
  a3 := Tryz.isAgg3
  z3 := Tryz.sizeOf3
  v3 := Tryz.zeroValue3
  t4 := Tryz.underlying4
  a4 := Tryz.isAgg4
  z4 := Tryz.sizeOf4
  v4 := Tryz.zeroValue4
  t5 := Tryz.underlying5
  a5 := Tryz.isAgg5
  z5 := Tryz.sizeOf5
  v5 := Tryz.zeroValue5
  t9 := Tryz.underlying9
  a9 := Tryz.isAgg9
  z9 := Tryz.sizeOf9
  v9 := Tryz.zeroValue9
  t28 := Tryz.underlying39
  a28 := Tryz.isAgg39
  z28 := Tryz.sizeOf39
  v28 := Tryz.zeroValue39
  t46 := Tryz.underlying91
  a46 := Tryz.isAgg91
  z46 := Tryz.sizeOf91
  v46 := Tryz.zeroValue91
  t51 := Tryz.underlying113
  a51 := Tryz.isAgg113
  z51 := Tryz.sizeOf113
  v51 := Tryz.zeroValue113
  t53 := Tryz.underlying66
  a53 := Tryz.isAgg66
  z53 := Tryz.sizeOf66
  v53 := Tryz.zeroValue66
  t131 := Tryz.underlying110
  a131 := Tryz.isAgg110
  z131 := Tryz.sizeOf110
  v131 := Tryz.zeroValue110
  t182 := Tryz.underlying105
  a182 := Tryz.isAgg105
  z182 := Tryz.sizeOf105
  v182 := Tryz.zeroValue105
  t183 := Tryz.underlying106
  a183 := Tryz.isAgg106
  z183 := Tryz.sizeOf106
  v183 := Tryz.zeroValue106
  t218 := Tryz.underlying121
  a218 := Tryz.isAgg121
  z218 := Tryz.sizeOf121
  v218 := Tryz.zeroValue121
  t222 := Tryz.underlying125
  a222 := Tryz.isAgg125
  z222 := Tryz.sizeOf125
  v222 := Tryz.zeroValue125
  t228 := Tryz.underlying130
  a228 := Tryz.isAgg130
  z228 := Tryz.sizeOf130
  v228 := Tryz.zeroValue130
  t229 := Tryz.underlying131
  a229 := Tryz.isAgg131
  z229 := Tryz.sizeOf131
  v229 := Tryz.zeroValue131 }
open Go.Sort Go.RowKit in
theorem Tryz.slices_Sort_int (blk off cap : Nat) (zs : List Int) (w : World) (hH : Holds (Value.int .i64) w blk off zs.toArray) (hblk : blk < w.heap.size) (hsz : zs.length < 4611686018427387904) :
    Calls Tryz.prog 69 #[.slice (some ⟨blk, off, none⟩) zs.length cap] w fun e w' =>
      e = .returned (.tuple #[]) ∧ ∃ n os, w' = grow (putRow (Value.int .i64) (Sort.ahead w n) blk off (zs.mergeSort fun x y => decide (x ≤ y)).toArray) os := Any.slices_Sort_int Tryz.lays189 blk off cap zs w hH hblk hsz
def Tryz.lays315_ren : Go.Shelf.Ren := ⟨fun | 315 => 102 | n => n, fun | 9 => 9 | 40 => 79 | 4 => 4 | 3 => 3 | 0 => 0 | 21 => 21 | n => n, fun | n => n⟩
theorem Tryz.lays315 : Go.Proofs.Lays.n315 Tryz.prog Tryz.lays315_ren := {
  mixed := by kernel_rfl
  f315 := Tryz.func102.trans (congrArg some (by kernel_rfl))
  t0 := Tryz.underlying0
  a0 := Tryz.isAgg0
  z0 := Tryz.sizeOf0
  v0 := Tryz.zeroValue0
  t3 := Tryz.underlying3
  a3 := Tryz.isAgg3
  z3 := Tryz.sizeOf3
  v3 := Tryz.zeroValue3
  t4 := Tryz.underlying4
  a4 := Tryz.isAgg4
  z4 := Tryz.sizeOf4
  v4 := Tryz.zeroValue4
  t9 := Tryz.underlying9
  a9 := Tryz.isAgg9
  z9 := Tryz.sizeOf9
  v9 := Tryz.zeroValue9
  t21 := Tryz.underlying21
  a21 := Tryz.isAgg21
  z21 := Tryz.sizeOf21
  v21 := Tryz.zeroValue21
  t40 := Tryz.underlying79
  a40 := Tryz.isAgg79
  z40 := Tryz.sizeOf79
  v40 := Tryz.zeroValue79 }
open Go.RowKit Go.Lib in
theorem Tryz.strings_indexFunc (g : Nat) (lb : Array Value) (eg : ∀ args w, (callFunc g args).run Tryz.prog w = .ok (.enter g args) w) (p : Nat → Bool) (truth : Bool) (s : ByteArray) (w : World) (hp : PredAt Tryz.prog g lb encR p w) :
    Calls Tryz.prog 102 #[.string s, .func (.func g) #[] lb, .bool truth] w fun e w' => e = .returned (.int .i64 (Lib.idxFunc p truth s)) ∧ Below w.heap.size w w' := Any.strings_indexFunc Tryz.lays315 g lb eg p truth s w hp
def Tryz.laysGw15_ren : Go.Shelf.Ren := ⟨fun | 15 => 74 | 20 => 102 | n => n, fun | 9 => 9 | 23 => 79 | 3 => 3 | 4 => 4 | 0 => 0 | 21 => 21 | n => n, fun | n => n⟩
theorem Tryz.laysGw15 : Go.Proofs.LaysGw.n15 Tryz.prog Tryz.laysGw15_ren := {
  mixed := by kernel_rfl
  f15 := Tryz.func74.trans (congrArg some (by kernel_rfl))
  f20 := Tryz.func102.trans (congrArg some (by kernel_rfl))
  t0 := Tryz.underlying0
  a0 := Tryz.isAgg0
  z0 := Tryz.sizeOf0
  v0 := Tryz.zeroValue0
  i0 := by kernel_rfl
  t3 := Tryz.underlying3
  a3 := Tryz.isAgg3
  z3 := Tryz.sizeOf3
  v3 := Tryz.zeroValue3
  i3 := by kernel_rfl
  t4 := Tryz.underlying4
  a4 := Tryz.isAgg4
  z4 := Tryz.sizeOf4
  v4 := Tryz.zeroValue4
  i4 := by kernel_rfl
  t9 := Tryz.underlying9
  a9 := Tryz.isAgg9
  z9 := Tryz.sizeOf9
  v9 := Tryz.zeroValue9
  i9 := by kernel_rfl
  t21 := Tryz.underlying21
  a21 := Tryz.isAgg21
  z21 := Tryz.sizeOf21
  v21 := Tryz.zeroValue21
  i21 := by kernel_rfl
  t23 := Tryz.underlying79
  a23 := Tryz.isAgg79
  z23 := Tryz.sizeOf79
  v23 := Tryz.zeroValue79
  i23 := by kernel_rfl }
open Go.RowKit Go.Lib in
theorem Tryz.strings_IndexFunc (g : Nat) (lb : Array Value) (eg : ∀ args w, (callFunc g args).run Tryz.prog w = .ok (.enter g args) w) (p : Nat → Bool) (s : ByteArray) (w : World) (hp : PredAt Tryz.prog g lb encR p w) :
    Calls Tryz.prog 74 #[.string s, .func (.func g) #[] lb] w fun e w' => e = .returned (.int .i64 (Lib.idxFunc p true s)) ∧ Below w.heap.size w w' := Any.strings_IndexFunc Tryz.laysGw15 g lb eg p s w hp
open Go.RowKit Go.Lib in
theorem Tryz.strings_indexFunc_grows (g : Nat) (lb : Array Value) (eg : ∀ args w, (callFunc g args).run Tryz.prog w = .ok (.enter g args) w) (p : Nat → Bool) (truth : Bool) (s : ByteArray) (w : World) (hp : PredGrows Tryz.prog g lb p w) :
    Calls Tryz.prog 102 #[.string s, .func (.func g) #[] lb, .bool truth] w fun e w' => e = .returned (.int .i64 (Lib.idxFunc p truth s)) ∧ Below w.heap.size w w' := Any.strings_indexFunc_grows Tryz.lays315 g lb eg p truth s w hp
open Go.RowKit Go.Lib in
theorem Tryz.strings_IndexFunc_grows (g : Nat) (lb : Array Value) (eg : ∀ args w, (callFunc g args).run Tryz.prog w = .ok (.enter g args) w) (p : Nat → Bool) (s : ByteArray) (w : World) (hp : PredGrows Tryz.prog g lb p w) :
    Calls Tryz.prog 74 #[.string s, .func (.func g) #[] lb] w fun e w' => e = .returned (.int .i64 (Lib.idxFunc p true s)) ∧ Below w.heap.size w w' := Any.strings_IndexFunc_grows Tryz.laysGw15 g lb eg p s w hp
open Go.RowKit Go.Sort in
/-- .. and plain. (LAID: no walk: one application.) -/
theorem Tryz.slices_Sort_int_none (p : Option Addr) (cap : Nat) (w : World) :
    Calls Tryz.prog 69 #[.slice p 0 cap] w fun e w' => e = .returned (.tuple #[]) ∧ w' = w := Any.slices_Sort_int_none Tryz.lays189 p cap w
def Tryz.laysT29_ren : Go.Shelf.Ren := ⟨fun | 29 => 140 | n => n, fun | 22 => 66 | 3 => 3 | 4 => 4 | 25 => 91 | 54 => 127 | 0 => 0 | 5 => 5 | n => n, fun | 1 => 1 | n => n⟩
theorem Tryz.laysT29 : Go.Proofs.Lays7.n29 Tryz.prog Tryz.laysT29_ren := {
  mixed := by kernel_rfl
  f29 := Tryz.func140.trans (congrArg some (by kernel_rfl))
  t0 := Tryz.underlying0
  a0 := Tryz.isAgg0
  z0 := Tryz.sizeOf0
  v0 := Tryz.zeroValue0
  i0 := by kernel_rfl
  t3 := Tryz.underlying3
  a3 := Tryz.isAgg3
  z3 := Tryz.sizeOf3
  v3 := Tryz.zeroValue3
  i3 := by kernel_rfl
  t4 := Tryz.underlying4
  a4 := Tryz.isAgg4
  z4 := Tryz.sizeOf4
  v4 := Tryz.zeroValue4
  i4 := by kernel_rfl
  t5 := Tryz.underlying5
  a5 := Tryz.isAgg5
  z5 := Tryz.sizeOf5
  v5 := Tryz.zeroValue5
  i5 := by kernel_rfl
  t22 := Tryz.underlying66
  a22 := Tryz.isAgg66
  z22 := Tryz.sizeOf66
  v22 := Tryz.zeroValue66
  i22 := by kernel_rfl
  t25 := Tryz.underlying91
  a25 := Tryz.isAgg91
  z25 := Tryz.sizeOf91
  v25 := Tryz.zeroValue91
  i25 := by kernel_rfl
  t54 := Tryz.underlying127
  a54 := Tryz.isAgg127
  z54 := Tryz.sizeOf127
  g1 := by kernel_rfl }
open Go.RowKit in
theorem Tryz.bits_TrailingZeros64 (x : Nat) (hx : x < 18446744073709551616) (w : World) (hT : x ≠ 0 → TabAt (Tryz.laysT29_ren.g 1) Lib.deBruijn64tab w) :
    Calls Tryz.prog (Tryz.laysT29_ren.f 29) #[.int .u64 x] w fun e w' => e = .returned (.int .i64 (Lib.ctz 64 x)) ∧ w' = w := Any7.bits_TrailingZeros64 Tryz.laysT29 x hx w hT
end Go.Proofs

namespace Go.X
open Go.RowKit
section
variable {P : Program} {c : Ctx}

theorem HeapOK.recell {st : St} {e : Env} {w : World} {b : Nat} {bx : Box} {cells : List AV} (hh : HeapOK c e st w) (hb : getK none st.boxes b = some bx) (h : ∀ vs, RL st e bx.cells vs → RL st e cells vs) :
    HeapOK c e ⟨st.tmps, putAt none st.boxes b (some ⟨bx.T, cells, bx.own⟩), st.rows, st.ys, st.pin⟩ w ∧ Pres st e ⟨st.tmps, putAt none st.boxes b (some ⟨bx.T, cells, bx.own⟩), st.rows, st.ys, st.pin⟩ e [] := by
  have hp : Pres st e ⟨st.tmps, putAt none st.boxes b (some ⟨bx.T, cells, bx.own⟩), st.rows, st.ys, st.pin⟩ e [] := by
    refine pres_of rfl rfl (fun id q hq => ⟨?_, rfl⟩) (fun id q _ hq => ⟨⟨q, hq, rfl, Nat.le_refl _⟩, rfl⟩)
    rw [getK_putAt]
    split
    · exact ⟨_, rfl⟩
    · exact ⟨q, hq⟩
  have hBB : ∀ i, blkB e ⟨st.tmps, putAt none st.boxes b (some ⟨bx.T, cells, bx.own⟩), st.rows, st.ys, st.pin⟩ i = blkB e st i := fun i => by
    simp only [blkB, getK_putAt]
    by_cases hi : i = b
    · subst hi; rw [if_pos rfl, hb]
    · rw [if_neg hi]
  refine ⟨⟨hh.frame, fun i q hq => ?_, hh.row, fun i j g h1 h2 => hh.injB i j g (by rw [← hBB]; exact h1) (by rw [← hBB]; exact h2), hh.injR, fun i j g h1 h2 => hh.apart i j g (by rw [← hBB]; exact h1) h2, hh.out, hh.defd, hh.defm, hh.mwr, hh.yl, hh.nd, RL_keep hp hh.pin⟩, hp⟩
  rw [getK_putAt] at hq
  by_cases hi : i = b
  · subst hi
    rw [if_pos rfl] at hq
    cases hq
    obtain ⟨⟨vs, h1, h2, h3⟩, h4⟩ := hh.box i bx hb
    exact ⟨⟨vs, h1, RL_keep hp (h vs h2), h3⟩, h4⟩
  · rw [if_neg hi] at hq
    obtain ⟨⟨vs, h1, h2, h3⟩, h4⟩ := hh.box i q hq
    exact ⟨⟨vs, h1, RL_keep hp h2, h3⟩, h4⟩

theorem RL_renil {st : St} {e : Env} {fr : Nat} (hrow : R st e (.row fr) (.slice none 0 0)) : ∀ (l : List AV) (j : Nat) (vs : List Value), getK .any l j = .nils → RL st e l vs → RL st e (backSt.setAt l j (.row fr)) vs := by
  intro l
  induction l with
  | nil => intro j vs h; cases j <;> simp [getK] at h
  | cons x l ih =>
    intro j vs h hl
    obtain ⟨v, vs', rfl, h1, h2⟩ := hl
    cases j with
    | zero =>
      simp only [getK] at h
      subst h
      simp only [R] at h1
      subst h1
      exact ⟨_, vs', rfl, hrow, h2⟩
    | succ j => exact ⟨v, vs', rfl, h1, ih j vs' h h2⟩

/-- In a box. -/
theorem Tr_nilBox {code : Code} {st : St} {K : Exit → St → Prop} (T : TypeId) (k : EK) (b j : Nat) {T0 : TypeId} {cells : List AV} {own : Bool} (hb : getK none st.boxes b = some ⟨T0, cells, own⟩) (hj : getK .any cells j = .nils) (hk : 0 < k.size)
    (h : lenK st.rows 0 fun n => avL (backSt.setAt cells j (.row n)) fun cells' => stF ⟨st.tmps, putAt none st.boxes b (some ⟨T0, cells', own⟩), putAt none st.rows n (some ⟨T, k, [], true⟩), st.ys, st.pin⟩ fun st => Tr P c code st K) : Tr P c code st K := by
  rw [lenK_eq, avL_eq, stF_eq, Nat.zero_add] at h
  intro e a w hh ht
  obtain ⟨h1, h2⟩ := addRow hh (fr := st.rows.length) (r := ⟨T, k, [], true⟩) (v := .slice none 0 0) (w' := w) (Below.refl _ _) (getK_length none st.rows _ (Nat.le_refl _)) rfl (.inl ⟨rfl, rfl⟩) (fun g hg => by simp [Value.ownBlock] at hg)
  have hR : R ⟨st.tmps, st.boxes, putAt none st.rows st.rows.length (some ⟨T, k, [], true⟩), st.ys, st.pin⟩ ⟨e.β, updV e.ρ st.rows.length (.slice none 0 0), e.M, e.D, e.l⟩ (.row st.rows.length) (.slice none 0 0) :=
    ⟨⟨⟨T, k, [], true⟩, by show getK none (putAt _ _ _ _) _ = _; rw [getK_putAt, if_pos rfl]⟩, by simp [updV]⟩
  obtain ⟨h3, h4⟩ := h1.recell (b := b) (cells := backSt.setAt cells j (.row st.rows.length)) hb (fun vs hv => RL_renil hR _ j vs hj hv)
  exact h _ a w h3 ⟨RL_keep h4 (RL_keep h2 ht.1), ht.2⟩

/-- In a temporary. -/
theorem Tr_nilTmp {code : Code} {st : St} {K : Exit → St → Prop} (T : TypeId) (k : EK) (t : Nat) (hj : getK .any st.tmps t = .nils) (hk : 0 < k.size)
    (h : stF ⟨backSt.setAt st.tmps t (.row st.rows.length), st.boxes, putAt none st.rows st.rows.length (some ⟨T, k, [], true⟩), st.ys, st.pin⟩ fun st => Tr P c code st K) : Tr P c code st K := by
  rw [stF_eq] at h
  intro e a w hh ht
  obtain ⟨h1, h2⟩ := addRow hh (fr := st.rows.length) (r := ⟨T, k, [], true⟩) (v := .slice none 0 0) (w' := w) (Below.refl _ _) (getK_length none st.rows _ (Nat.le_refl _)) rfl (.inl ⟨rfl, rfl⟩) (fun g hg => by simp [Value.ownBlock] at hg)
  have hR : R ⟨st.tmps, st.boxes, putAt none st.rows st.rows.length (some ⟨T, k, [], true⟩), st.ys, st.pin⟩ ⟨e.β, updV e.ρ st.rows.length (.slice none 0 0), e.M, e.D, e.l⟩ (.row st.rows.length) (.slice none 0 0) :=
    ⟨⟨⟨T, k, [], true⟩, by show getK none (putAt _ _ _ _) _ = _; rw [getK_putAt, if_pos rfl]⟩, by simp [updV]⟩
  exact h _ a w (HeapOK_tmps h1) ⟨RL_st (st := ⟨st.tmps, st.boxes, putAt none st.rows st.rows.length (some ⟨T, k, [], true⟩), st.ys, st.pin⟩) rfl rfl (RL_renil hR _ t _ hj (RL_keep h2 ht.1)), ht.2⟩

/-- A round has come back to the loop's head. -/
inductive Again {α : Type} (ok : α → Prop) (μ : α → Nat) (x : α) (st : St) (H : α → St) : Prop
  | mk (x' : α) (h1 : ok x') (h2 : μ x' < μ x) (h3 : Le st (H x'))

/-- A loop, by what it keeps: what the loop writes is forgotten but for what is told. -/
theorem Tr_loopH {α : Type} (ts : α → List (Nat × AV)) (bs : α → List (Nat × Option Box)) (rs : α → List (Nat × Option Row)) (ok : α → Prop) (μ : α → Nat) {body : Code} {st : St} {K : Exit → St → Prop} (x0 : α) (h0 : ok x0)
    (hle : Le st (headOf body st (ts x0) (bs x0) (rs x0)))
    (hround : ∀ x, ok x → Tr P c body (headOf body st (ts x) (bs x) (rs x)) (exitThen (fun st' => Again ok μ x st' (fun x' => headOf body st (ts x') (bs x') (rs x'))) K)) : Tr P c (.loop body) st K := by
  refine Tr_loop (fun x => headOf body st (ts x) (bs x) (rs x)) ok μ x0 h0 hle (fun x hx e a w hh ht => ?_)
  refine wpIn_mono (hround x hx e a w hh ht) (fun ex a' w' hq => QK_mono (fun ex' st' h => ?_) hq)
  cases ex' with
  | normal => obtain ⟨x', h1, h2, h3⟩ := h; exact ⟨x', h1, h2, h3⟩
  | _ => exact h
end
end Go.X

namespace Go.X
open Go

theorem wrap64 {x : Int} (h : -9223372036854775808 ≤ x) (h' : x ≤ 9223372036854775807) : IntKind.i64.wrap x = x := by
  have e1 : (2 : Int) ^ (64 : Nat) = 18446744073709551616 := by decide
  have e2 : (2 : Int) ^ (64 - 1 : Nat) = 9223372036854775808 := by decide
  unfold IntKind.wrap
  simp only [IntKind.signed, IntKind.bits, e1, e2]
  by_cases h2 : x % 18446744073709551616 ≥ 9223372036854775808
  · rw [if_pos (by simp [h2])]; omega
  · rw [if_neg (by simp; omega)]; omega
theorem bn {b : Bool} (h : (!b) = false) : b = true := by cases b <;> simp_all
theorem bt {b : Bool} (h : (!b) = true) : b = false := by cases b <;> simp_all
theorem tdiv9 {n : Int} (h : 0 ≤ n) : n.tdiv 9 = n / 9 := Int.tdiv_eq_ediv_of_nonneg h
theorem tmod9 {n : Int} (h : 0 ≤ n) : n.tmod 9 = n % 9 := Int.tmod_eq_emod_of_nonneg h

def spIsSquare (n : Int) : Bool := decide (0 ≤ n) && decide (n < 90)
theorem isSquare_iff {n : Int} : spIsSquare n = true ↔ 0 ≤ n ∧ n < 90 := by simp [spIsSquare]
def spRank (n : Int) : Int := if spIsSquare n then n / 9 else -1
def spFile (n : Int) : Int := if spIsSquare n then n % 9 else -1
def spSquare (f r : Int) : Int := if decide (0 ≤ f) && decide (f < 9) && decide (0 ≤ r) && decide (r < 10) then r * 9 + f else -1
def spIdxB (l : List UInt8) (c : Int) : Int := Lib.indexByte l c.toNat.toUInt8
def spSide (c : Int) : Int := if 0 ≤ spIdxB [75, 65, 66, 78, 82, 67, 80] c then 0 else if 0 ≤ spIdxB [107, 97, 98, 110, 114, 99, 112] c then 1 else -1
def spIsCell (c : Int) : Bool := (c == 46) || decide (0 ≤ spSide c)
def spKind (c : Int) : Int := if spSide c = 1 then IntKind.u8.wrap (c - 32) else if spSide c = 0 then c else 0
def spBad (r : Nat) : Bool := decide ((122 : Int) < r) || !spIsCell (IntKind.u8.wrap r)
def spIs (p : ByteArray) : Bool := (p.size : Int) == 90 && decide (Lib.idxFunc spBad true p < 0)
theorem spIs_size {p : ByteArray} (h : spIs p = true) : p.size = 90 := by simp [spIs] at h; omega
theorem bytesL_length (p : ByteArray) : (bytesL p).length = p.size := by simp [bytesL]
def spAt (p : ByteArray) (n : Int) : Int := if spIsSquare n && spIs p then byteAt p n.toNat else 46
def spPut (p : ByteArray) (n c : Int) : ByteArray := if spIsSquare n && spIsCell c && spIs p then bytesOf ((bytesL p).set n.toNat c) else p
end Go.X

namespace Go.X
open Go

structure UI (x : Int) : Prop where
  lo : 0 ≤ x
  hi : x < 18446744073709551616
  ok : True
theorem UI.nat {n : Nat} (h : n < 18446744073709551616) : UI (Int.ofNat n) := ⟨by simp, by show (n : Int) < _; omega, trivial⟩
theorem and_nat {a b : Int} (ha : UI a) (hb : UI b) : bits .and .u64 a b = Int.ofNat (a.toNat &&& b.toNat) := Go.u64_and a b ha.lo ha.hi hb.lo hb.hi
theorem or_nat {a b : Int} (ha : UI a) (hb : UI b) : bits .or .u64 a b = Int.ofNat (a.toNat ||| b.toNat) := Go.u64_or a b ha.lo ha.hi hb.lo hb.hi
theorem andNot_nat {a b : Int} (ha : UI a) (hb : UI b) : bits .andNot .u64 a b = Int.ofNat (a.toNat &&& (18446744073709551615 - b.toNat)) := Go.u64_andNot a b ha.lo ha.hi hb.lo hb.hi
theorem UI_or {a b : Int} (ha : UI a) (hb : UI b) : UI (bits .or .u64 a b) := by
  rw [or_nat ha hb]
  refine UI.nat (Nat.or_lt_two_pow (n := 64) ?_ ?_) <;> (have h1 := ha.lo; have h2 := ha.hi; have h3 := hb.lo; have h4 := hb.hi; omega)
theorem UI_andNot {a b : Int} (ha : UI a) (hb : UI b) : UI (bits .andNot .u64 a b) := by
  rw [andNot_nat ha hb]
  refine UI.nat (Nat.lt_of_le_of_lt Nat.and_le_left ?_)
  have h1 := ha.lo; have h2 := ha.hi; omega
theorem UI_M : UI 35184372088831 := ⟨by decide, by decide, trivial⟩
abbrev BS := Nat × Nat
def spOne (n : Int) : BS := if decide (n < 0) || decide (90 ≤ n) then (0, 0) else if n < 45 then (2 ^ n.toNat, 0) else (0, 2 ^ (n - 45).toNat)
def spPlain (a : BS) : BS := (a.1 &&& 35184372088831, a.2 &&& 35184372088831)
def spOr (a b : BS) : BS := spPlain (a.1 ||| b.1, a.2 ||| b.2)
def spMinus (a b : BS) : BS := spPlain (a.1 &&& (18446744073709551615 - b.1), a.2 &&& (18446744073709551615 - b.2))
def spWith (a : BS) (n : Int) : BS := spOr a (spOne n)
def spWithout (a : BS) (n : Int) : BS := spMinus a (spOne n)
def spFirst (a : BS) : Int := if (spPlain a).1 ≠ 0 then Lib.ctz 64 (spPlain a).1 else if (spPlain a).2 ≠ 0 then 45 + Lib.ctz 64 (spPlain a).2 else -1
def bit (s : BS) (n : Nat) : Bool := if n < 45 then s.1.testBit n else s.2.testBit (n - 45)
def spList (s : BS) : List Int := ((List.range 90).filter (bit s)).map Int.ofNat

theorem m45 : 35184372088831 = 2 ^ 45 - 1 := by decide
theorem bit_plain (s : BS) {n : Nat} (h : n < 90) : bit (spPlain s) n = bit s n := by
  unfold bit spPlain
  split
  · rw [Nat.testBit_and, m45, Nat.testBit_two_pow_sub_one]; simp; omega
  · rw [Nat.testBit_and, m45, Nat.testBit_two_pow_sub_one]; simp; omega
theorem plain_lt (s : BS) : (spPlain s).1 < 2 ^ 45 ∧ (spPlain s).2 < 2 ^ 45 := by
  unfold spPlain
  have h1 := Nat.and_le_right (n := s.1) (m := 35184372088831)
  have h2 := Nat.and_le_right (n := s.2) (m := 35184372088831)
  simp only
  omega
theorem plain_idem {s : BS} (h : s.1 < 2 ^ 45 ∧ s.2 < 2 ^ 45) : spPlain s = s := by
  unfold spPlain
  rw [m45, Nat.and_two_pow_sub_one_of_lt_two_pow h.1, Nat.and_two_pow_sub_one_of_lt_two_pow h.2]
theorem spList_plain (s : BS) : spList (spPlain s) = spList s := by
  unfold spList
  congr 1
  exact List.filter_congr fun n hn => bit_plain s (by simpa using hn)
theorem one_lt (n : Int) : (spOne n).1 < 2 ^ 45 ∧ (spOne n).2 < 2 ^ 45 := by
  unfold spOne
  split
  · decide
  · rename_i h
    simp at h
    split
    · exact ⟨Nat.pow_lt_pow_right (by decide) (by omega), by show (0 : Nat) < 2 ^ 45; decide⟩
    · exact ⟨by show (0 : Nat) < 2 ^ 45; decide, Nat.pow_lt_pow_right (by decide) (by omega)⟩
theorem spOne_lo {n : Nat} (h : n < 45) : spOne n = (2 ^ n, 0) := by
  have h1 : (decide ((n : Int) < 0) || decide (90 ≤ (n : Int))) = false := by rw [Bool.or_eq_false_iff]; exact ⟨decide_eq_false (by omega), decide_eq_false (by omega)⟩
  unfold spOne
  rw [h1, if_neg (by simp), if_pos (by omega), Int.toNat_natCast]
theorem spOne_hi {n : Nat} (h : 45 ≤ n) (h' : n < 90) : spOne n = (0, 2 ^ (n - 45)) := by
  have h1 : (decide ((n : Int) < 0) || decide (90 ≤ (n : Int))) = false := by rw [Bool.or_eq_false_iff]; exact ⟨decide_eq_false (by omega), decide_eq_false (by omega)⟩
  have h2 : ((n : Int) - 45).toNat = n - 45 := by omega
  unfold spOne
  rw [h1, if_neg (by simp), if_neg (by omega), h2]
theorem bit_one (n k : Nat) (hn : n < 90) (hk : k < 90) : bit (spOne n) k = (k == n) := by
  unfold bit
  rcases Nat.lt_or_ge n 45 with h | h
  · rw [spOne_lo h]
    split
    · simp only [Nat.testBit_two_pow]
      rw [Bool.eq_iff_iff, decide_eq_true_iff, beq_iff_eq]; exact eq_comm
    · simp only [Nat.zero_testBit]
      exact (beq_eq_false_iff_ne.2 (by omega)).symm
  · rw [spOne_hi h hn]
    split
    · simp only [Nat.zero_testBit]
      exact (beq_eq_false_iff_ne.2 (by omega)).symm
    · simp only [Nat.testBit_two_pow]
      rw [Bool.eq_iff_iff, decide_eq_true_iff, beq_iff_eq]; omega
theorem bit_or (a b : BS) (k : Nat) (hk : k < 90) : bit (spOr a b) k = (bit a k || bit b k) := by
  unfold spOr
  rw [bit_plain _ hk]
  unfold bit
  split <;> simp
theorem bit_minus (a b : BS) (k : Nat) (hb : b.1 < 2 ^ 45 ∧ b.2 < 2 ^ 45) (hk : k < 90) : bit (spMinus a b) k = (bit a k && !bit b k) := by
  unfold spMinus
  rw [bit_plain _ hk]
  unfold bit
  have e : ∀ x, x < 2 ^ 45 → 18446744073709551615 - x = 2 ^ 64 - (x + 1) := fun x hx => by omega
  split
  · rw [Nat.testBit_and, e _ hb.1, Nat.testBit_two_pow_sub_succ (by omega)]
    have : k < 64 := by omega
    simp [this]
  · rw [Nat.testBit_and, e _ hb.2, Nat.testBit_two_pow_sub_succ (by omega)]
    have : k - 45 < 64 := by omega
    simp [this]
theorem or_lt (a b : BS) : (spOr a b).1 < 2 ^ 45 ∧ (spOr a b).2 < 2 ^ 45 := plain_lt _
theorem minus_lt (a b : BS) : (spMinus a b).1 < 2 ^ 45 ∧ (spMinus a b).2 < 2 ^ 45 := plain_lt _

theorem ctz_bits {x : Nat} (h0 : x ≠ 0) (h : x < 2 ^ 45) : Lib.ctz 64 x < 45 ∧ x.testBit (Lib.ctz 64 x) = true ∧ ∀ k, k < Lib.ctz 64 x → x.testBit k = false := by
  unfold Lib.ctz
  rw [if_neg h0]
  obtain ⟨m, h1, h2⟩ := Lib.ctzFrom_spec 64 x (by omega) (by omega)
  generalize Lib.ctzFrom 64 x = c at h1 h2
  have hb : ∀ k, x.testBit k = (decide (c ≤ k) && (2 * m + 1).testBit (k - c)) := fun k => by rw [h1, Nat.testBit_two_pow_mul]
  refine ⟨?_, ?_, ?_⟩
  · rcases Nat.lt_or_ge c 45 with h3 | h3
    · exact h3
    · have h4 : 2 ^ 45 ≤ 2 ^ c := Nat.pow_le_pow_right (by decide) h3
      have h5 : 2 ^ c ≤ 2 ^ c * (2 * m + 1) := Nat.le_mul_of_pos_right _ (by omega)
      omega
  · rw [hb]; simp
  · intro k hk
    rw [hb, decide_eq_false (by omega)]; rfl

theorem filter_least : ∀ (N : Nat) (q : Nat → Bool) (n : Nat), n < N → q n = true → (∀ k, k < n → q k = false) → (List.range N).filter q = n :: (List.range N).filter (fun k => q k && !(k == n)) := by
  intro N
  induction N with
  | zero => intro q n h; omega
  | succ N ih =>
    intro q n hn hq hl
    rw [List.range_succ, List.filter_append, List.filter_append]
    rcases Nat.lt_or_ge n N with h | h
    · rw [ih q n h hq hl]
      have : (N == n) = false := by simp; omega
      simp [List.filter_cons, this]
    · have : n = N := by omega
      subst this
      have h1 : (List.range n).filter q = [] := by
        rw [List.filter_eq_nil_iff]; intro k hk; simp at hk; simp [hl k hk]
      have h2 : (List.range n).filter (fun k => q k && !(k == n)) = [] := by
        rw [List.filter_eq_nil_iff]; intro k hk; simp at hk; simp [hl k hk]
      rw [h1, h2]
      simp [List.filter_cons, hq]

theorem first_spec {s : BS} (h : s.1 < 2 ^ 45 ∧ s.2 < 2 ^ 45) (h0 : s ≠ (0, 0)) : ∃ n : Nat, n < 90 ∧ spFirst s = n ∧ bit s n = true ∧ ∀ k, k < n → bit s k = false := by
  unfold spFirst
  rw [plain_idem h]
  by_cases h1 : s.1 ≠ 0
  · rw [if_pos h1]
    obtain ⟨h2, h3, h4⟩ := ctz_bits h1 h.1
    refine ⟨_, by omega, rfl, ?_, fun k hk => ?_⟩
    · unfold bit; rw [if_pos h2]; exact h3
    · unfold bit; rw [if_pos (by omega)]; exact h4 k hk
  · have h1' : s.1 = 0 := by omega
    have h2 : s.2 ≠ 0 := fun h2 => h0 (by obtain ⟨a, b⟩ := s; simp at h1' h2; rw [h1', h2])
    rw [if_neg h1, if_pos h2]
    obtain ⟨h3, h4, h5⟩ := ctz_bits h2 h.2
    refine ⟨45 + Lib.ctz 64 s.2, by omega, by omega, ?_, fun k hk => ?_⟩
    · unfold bit; rw [if_neg (by omega)]; rw [Nat.add_sub_cancel_left]; exact h4
    · unfold bit
      split
      · rw [h1']; simp
      · exact h5 _ (by omega)

theorem first1 (s : BS) (h : (Int.ofNat (spPlain s).1 != 0) = true) : Int.ofNat (Lib.ctz 64 (spPlain s).1) = spFirst s := by
  rw [spFirst, if_pos (fun h1 => by rw [h1] at h; simp at h)]; rfl
theorem first2 (s : BS) (h1 : (Int.ofNat (spPlain s).1 != 0) = false) (h2 : (Int.ofNat (spPlain s).2 != 0) = true) : IntKind.i64.wrap (45 + Int.ofNat (Lib.ctz 64 (spPlain s).2)) = spFirst s := by
  have h3 : (spPlain s).2 ≠ 0 := fun h3 => by rw [h3] at h2; simp at h2
  have h4 := (ctz_bits h3 (plain_lt s).2).1
  rw [spFirst, if_neg (fun h3 => h3 (by simpa using h1)), if_pos h3]
  generalize Lib.ctz 64 (spPlain s).2 = m at h4
  rw [wrap64] <;> simp <;> omega
theorem first3 (s : BS) (h1 : (Int.ofNat (spPlain s).1 != 0) = false) (h2 : (Int.ofNat (spPlain s).2 != 0) = false) : -1 = spFirst s := by
  rw [spFirst, if_neg (fun h3 => h3 (by simpa using h1)), if_neg (fun h3 => h3 (by simpa using h2))]

theorem spList_zero : spList (0, 0) = [] := by
  unfold spList
  rw [List.filter_eq_nil_iff.2]
  · rfl
  · intro k _; unfold bit; split <;> simp
theorem spList_step {s : BS} (h : s.1 < 2 ^ 45 ∧ s.2 < 2 ^ 45) (h0 : s ≠ (0, 0)) : spList s = spFirst s :: spList (spWithout s (spFirst s)) := by
  obtain ⟨n, h1, h2, h3, h4⟩ := first_spec h h0
  unfold spList
  rw [filter_least 90 (bit s) n h1 h3 h4, h2]
  simp only [List.map_cons]
  congr 2
  refine List.filter_congr fun k hk => ?_
  have hk' : k < 90 := by simpa using hk
  unfold spWithout
  rw [bit_minus _ _ _ (one_lt _) hk', bit_one _ _ h1 hk']
theorem spList_len (s : BS) : (spList s).length ≤ 90 := by
  unfold spList
  rw [List.length_map]
  have := List.length_filter_le (bit s) (List.range 90)
  simpa using this
theorem spList_lt (s : BS) : ∀ x ∈ spList s, 0 ≤ x ∧ x < 90 := by
  intro x hx
  unfold spList at hx
  simp only [List.mem_map, List.mem_filter, List.mem_range] at hx
  obtain ⟨n, ⟨h1, _⟩, rfl⟩ := hx
  exact ⟨by simp, by simp; omega⟩
end Go.X

namespace Go.X
open Go

def LB {α : Type} (l : List α) : Prop := l.length ≤ 2000000000
theorem wrapN {i : Nat} (h : i ≤ 4000000000) : IntKind.i64.wrap (Int.ofNat i + 1) = Int.ofNat (i + 1) := by
  rw [wrap64] <;> simp <;> omega
theorem wrapP {i : Nat} (h1 : 1 ≤ i) (h : i ≤ 4000000000) : IntKind.i64.wrap (Int.ofNat i - 1) = Int.ofNat (i - 1) := by
  rw [wrap64] <;> simp <;> omega
theorem beqT {a b : Int} (h : (a == b) = true) : a = b := by simpa using h
theorem beqF {a b : Int} (h : (a == b) = false) : a ≠ b := by simpa using h
theorem bneT {a b : Int} (h : (a != b) = true) : a ≠ b := by simpa using h
theorem bneF {a b : Int} (h : (a != b) = false) : a = b := by simpa using h
def spIdx (f : Int → Bool) (l : List Int) : Int := match l.findIdx? f with | some i => Int.ofNat i | none => -1
theorem idx_none {f : Int → Bool} {l : List Int} (h : ∀ x ∈ l.take l.length, f x = false) : spIdx f l = -1 := by
  have : l.findIdx? f = none := by rw [List.findIdx?_eq_none_iff]; simpa using h
  rw [spIdx, this]
theorem idx_some {f : Int → Bool} {l : List Int} {i : Nat} (hi : i < l.length) (h : ∀ x ∈ l.take i, f x = false) (hx : f (l.getD i 0) = true) : spIdx f l = Int.ofNat i := by
  have e : l.getD i 0 = l[i] := by simp [List.getD_eq_getElem?_getD, List.getElem?_eq_getElem hi]
  have : l.findIdx? f = some i := by
    rw [List.findIdx?_eq_some_iff_getElem]
    refine ⟨hi, by rw [← e]; exact hx, fun j hj => ?_⟩
    have := h l[j] (by rw [List.mem_take_iff_getElem]; exact ⟨j, by omega, rfl⟩)
    simp [this]
  rw [spIdx, this]
theorem take_next {f : Int → Bool} {l : List Int} {i : Nat} (hi : i < l.length) (h : ∀ x ∈ l.take i, f x = false) (hx : f (l.getD i 0) = false) : ∀ x ∈ l.take (i + 1), f x = false := by
  have e : l.getD i 0 = l[i] := by simp [List.getD_eq_getElem?_getD, List.getElem?_eq_getElem hi]
  intro x hm
  rw [List.take_succ_eq_append_getElem hi, List.mem_append, List.mem_singleton] at hm
  rcases hm with hm | hm
  · exact h x hm
  · rw [hm, ← e]; exact hx
theorem idx_spec (f : Int → Bool) (l : List Int) : (spIdx f l = -1 ∧ l.any f = false) ∨ ∃ i : Nat, i < l.length ∧ spIdx f l = Int.ofNat i ∧ (∀ x ∈ l.take i, f x = false) ∧ f (l.getD i 0) = true := by
  cases h : l.findIdx? f with
  | none =>
    left
    refine ⟨by rw [spIdx, h], ?_⟩
    rw [List.findIdx?_eq_none_iff] at h
    simpa using h
  | some i =>
    right
    rw [List.findIdx?_eq_some_iff_getElem] at h
    obtain ⟨hi, h1, h2⟩ := h
    have e : l.getD i 0 = l[i] := by simp [List.getD_eq_getElem?_getD, List.getElem?_eq_getElem hi]
    refine ⟨i, hi, idx_some hi ?_ (by rw [e]; exact h1), ?_, by rw [e]; exact h1⟩
    all_goals
      intro x hx
      rw [List.mem_take_iff_getElem] at hx
      obtain ⟨j, hj, rfl⟩ := hx
      have := h2 j (by omega)
      simpa using this
/-- What 'DeleteFunc' keeps, on its way. -/
structure DelInv (f : Int → Bool) (l : List Int) (w j : Nat) (row : List Int) : Prop where
  lt : w < j
  le : j ≤ l.length
  len : row.length = l.length
  kept : row.take w = (l.take j).filter (fun x => !f x)
  rest : row.drop j = l.drop j
theorem DelInv.start {f : Int → Bool} {l : List Int} {w : Nat} (hw : w < l.length) (h : ∀ x ∈ l.take w, f x = false) (hx : f (l.getD w 0) = true) : DelInv f l w (w + 1) l := by
  have e : l.getD w 0 = l[w] := by simp [List.getD_eq_getElem?_getD, List.getElem?_eq_getElem hw]
  refine ⟨by omega, by omega, rfl, ?_, rfl⟩
  rw [List.take_succ_eq_append_getElem hw, List.filter_append, List.filter_eq_self.2 (fun x hm => by simp [h x hm])]
  rw [e] at hx
  simp [hx]
theorem DelInv.get {f : Int → Bool} {l : List Int} {w j : Nat} {row : List Int} (h : DelInv f l w j row) (hj : j < l.length) : row.getD j 0 = l[j] := by
  have h1 : row.drop j = l.drop j := h.rest
  have h2 := congrArg (fun m => m[0]?) h1
  simp only [List.getElem?_drop, Nat.add_zero] at h2
  rw [List.getD_eq_getElem?_getD, h2, List.getElem?_eq_getElem hj]; rfl
theorem DelInv.del {f : Int → Bool} {l : List Int} {w j : Nat} {row : List Int} (h : DelInv f l w j row) (hj : j < l.length) (hx' : (!f (row.getD j 0)) = false) : DelInv f l w (j + 1) row := by
  have hx : f (row.getD j 0) = true := by simpa using hx'
  rw [h.get hj] at hx
  refine ⟨by have := h.lt; omega, by omega, h.len, ?_, ?_⟩
  · rw [h.kept, List.take_succ_eq_append_getElem hj, List.filter_append]; simp [hx]
  · have := congrArg (List.drop 1) h.rest
    simpa [List.drop_drop, Nat.add_comm] using this
theorem DelInv.keep {f : Int → Bool} {l : List Int} {w j : Nat} {row : List Int} (h : DelInv f l w j row) (hj : j < l.length) (hx' : (!f (row.getD j 0)) = true) : DelInv f l (w + 1) (j + 1) (row.set w (row.getD j 0)) := by
  have hx : f (row.getD j 0) = false := by simpa using hx'
  have hlt := h.lt
  have hlen := h.len
  rw [h.get hj] at hx ⊢
  refine ⟨by omega, by omega, by simpa using hlen, ?_, ?_⟩
  · rw [List.take_succ_eq_append_getElem (by simp; omega), List.take_set_of_le (by omega), h.kept, List.take_succ_eq_append_getElem hj, List.filter_append]
    simp [hx]
  · rw [List.drop_set_of_lt (by omega)]
    have := congrArg (List.drop 1) h.rest
    simpa [List.drop_drop, Nat.add_comm] using this
theorem DelInv.done {f : Int → Bool} {l : List Int} {w j : Nat} {row : List Int} (h : DelInv f l w j row) (hj : ¬ j < l.length) : row.take w = l.filter (fun x => !f x) := by
  have := h.le
  rw [h.kept, List.take_of_length_le (by omega)]
theorem idx_all {f : Int → Bool} {l : List Int} (h : l.any f = false) : l.filter (fun x => !f x) = l := by
  rw [List.filter_eq_self]; intro x hx
  have : ∀ x ∈ l, f x = false := by simpa using h
  simp [this x hx]
/-- 'Compact'. -/
def cstep (acc : List Int) (x : Int) : List Int := if acc.getLast? = some x then acc else acc ++ [x]
def spCompact (l : List Int) : List Int := l.foldl cstep []
theorem getD_getElem {l : List Int} {i : Nat} (hi : i < l.length) : l.getD i 0 = l[i] := by simp [List.getD_eq_getElem?_getD, List.getElem?_eq_getElem hi]
theorem compact_next {l : List Int} {j : Nat} (hj : j < l.length) : spCompact (l.take (j + 1)) = cstep (spCompact (l.take j)) l[j] := by
  unfold spCompact
  rw [List.take_succ_eq_append_getElem hj, List.foldl_append]; rfl
theorem compact_last {l : List Int} {j : Nat} (hj : j < l.length) : (spCompact (l.take (j + 1))).getLast? = some l[j] := by
  rw [compact_next hj]
  unfold cstep
  split
  · assumption
  · simp
theorem compact_same {l : List Int} {j : Nat} (hj : j + 1 < l.length) (he : l[j + 1] = l[j]) : spCompact (l.take (j + 2)) = spCompact (l.take (j + 1)) := by
  rw [compact_next hj, cstep, if_pos]
  rw [compact_last (by omega), he]
theorem compact_new {l : List Int} {j : Nat} (hj : j + 1 < l.length) (he : l[j + 1] ≠ l[j]) : spCompact (l.take (j + 2)) = spCompact (l.take (j + 1)) ++ [l[j + 1]] := by
  rw [compact_next hj, cstep, if_neg]
  rw [compact_last (by omega)]
  intro h; exact he (Option.some.inj h).symm
theorem compact_one {l : List Int} (h : 1 ≤ l.length) : spCompact (l.take 1) = l.take 1 := by
  cases l with
  | nil => simp at h
  | cons x l => rfl
theorem compact_short {l : List Int} (h : l.length < 2) : spCompact l = l := by
  match l with
  | [] => rfl
  | [x] => rfl
  | x :: y :: l => simp at h; omega
/-- The second loop: w has been written, j comes next. -/
structure CmpInv (l : List Int) (w j : Nat) (row : List Int) : Prop where
  lt : w + 1 ≤ j
  le : j ≤ l.length
  len : row.length = l.length
  kept : row.take w = spCompact (l.take j)
  rest : row.drop (j - 1) = l.drop (j - 1)
theorem CmpInv.get {l : List Int} {w j : Nat} {row : List Int} (h : CmpInv l w j row) (i : Nat) (hi : j - 1 ≤ i) (hil : i < l.length) : row.getD i 0 = l[i] := by
  have h2 := congrArg (fun m => m[i - (j - 1)]?) h.rest
  simp only [List.getElem?_drop] at h2
  rw [show j - 1 + (i - (j - 1)) = i by omega] at h2
  rw [List.getD_eq_getElem?_getD, h2, List.getElem?_eq_getElem hil]; rfl
theorem CmpInv.start {l : List Int} {k : Nat} (hk : 1 ≤ k) (hkl : k < l.length) (h : spCompact (l.take k) = l.take k) (he : l.getD k 0 = l.getD (k - 1) 0) : CmpInv l k (k + 1) l := by
  refine ⟨by omega, by omega, rfl, ?_, rfl⟩
  obtain ⟨m, rfl⟩ : ∃ m, k = m + 1 := ⟨k - 1, by omega⟩
  rw [getD_getElem hkl, getD_getElem (by omega)] at he
  rw [compact_same hkl he, h]
theorem CmpInv.same {l : List Int} {w j : Nat} {row : List Int} (h : CmpInv l w j row) (hj : j < l.length) (he : row.getD j 0 = row.getD (j - 1) 0) : CmpInv l w (j + 1) row := by
  have hlt := h.lt
  rw [h.get j (by omega) hj, h.get (j - 1) (by omega) (by omega)] at he
  obtain ⟨m, rfl⟩ : ∃ m, j = m + 1 := ⟨j - 1, by omega⟩
  refine ⟨by omega, by omega, h.len, ?_, ?_⟩
  · rw [compact_same hj he]; exact h.kept
  · have := congrArg (List.drop 1) h.rest
    simpa [List.drop_drop, Nat.add_comm] using this
theorem CmpInv.new {l : List Int} {w j : Nat} {row : List Int} (h : CmpInv l w j row) (hj : j < l.length) (he : row.getD j 0 ≠ row.getD (j - 1) 0) : CmpInv l (w + 1) (j + 1) (row.set w (row.getD j 0)) := by
  have hlt := h.lt
  have hlen := h.len
  have hg := h.get j (by omega) hj
  rw [hg, h.get (j - 1) (by omega) (by omega)] at he
  rw [hg]
  obtain ⟨m, rfl⟩ : ∃ m, j = m + 1 := ⟨j - 1, by omega⟩
  refine ⟨by omega, by omega, by simpa using hlen, ?_, ?_⟩
  · rw [compact_new hj he, List.take_succ_eq_append_getElem (by simp; omega), List.take_set_of_le (by omega), h.kept]
    simp
  · rw [List.drop_set_of_lt (by omega)]
    have := congrArg (List.drop 1) h.rest
    simpa [List.drop_drop, Nat.add_comm] using this
theorem CmpInv.done {l : List Int} {w j : Nat} {row : List Int} (h : CmpInv l w j row) (hj : ¬ j < l.length) : row.take w = spCompact l := by
  have := h.le
  rw [h.kept, List.take_of_length_le (by omega)]
theorem compact_go {l : List Int} {k : Nat} (hk : 1 ≤ k) (hkl : k < l.length) (h : spCompact (l.take k) = l.take k) (he : l.getD k 0 ≠ l.getD (k - 1) 0) : spCompact (l.take (k + 1)) = l.take (k + 1) := by
  obtain ⟨m, rfl⟩ : ∃ m, k = m + 1 := ⟨k - 1, by omega⟩
  rw [getD_getElem hkl, getD_getElem (by omega)] at he
  rw [compact_new hkl he, h, ← List.take_succ_eq_append_getElem hkl]
structure S90 (p : ByteArray) : Prop where
  is : p.size = 90
  u : True
  v : True
/-- Of an empty list nothing is asked. -/
structure NE (l : List Int) (p : ByteArray) : Prop where
  is : l = [] ∨ p.size = 90
  u : True
  v : True
theorem NE.of {l : List Int} {p : ByteArray} {i : Nat} (h : NE l p) (hi : i < l.length) : S90 p := by
  rcases h.is with e | e
  · subst e; simp at hi
  · exact ⟨e, trivial, trivial⟩
theorem NE.of' {l : List Int} {p : ByteArray} {i : Nat} (h : NE l p) (hi : decide (Int.ofNat i < (l.length : Int)) = true) : S90 p := h.of (i := i) (by simpa using hi)
/-- A value whose definition nobody opens. -/
noncomputable def veil {α : Type} (x : α) : α := Classical.choose (⟨x, rfl⟩ : ∃ y, y = x)
theorem veil_eq {α : Type} (x : α) : veil x = x := Classical.choose_spec (⟨x, rfl⟩ : ∃ y, y = x)
end Go.X

namespace Go.X
open Go

/-- A small number. -/
structure SM (a : Int) : Prop where
  lo : -1000 ≤ a
  hi : a ≤ 1000
  u : True
theorem SM.of {a : Int} (h : -1000 ≤ a) (h' : a ≤ 1000) : SM a := ⟨h, h', trivial⟩
structure Dir (a b : Int) : Prop where
  is : (a = 1 ∧ b = 0) ∨ (a = -1 ∧ b = 0) ∨ (a = 0 ∧ b = 1) ∨ (a = 0 ∧ b = -1)
  u : True
  v : True

theorem file_bd (n : Int) : -1 ≤ spFile n ∧ spFile n ≤ 8 := by
  unfold spFile; split
  · omega
  · omega
theorem rank_bd (n : Int) : -1 ≤ spRank n ∧ spRank n ≤ 9 := by
  unfold spRank; split
  · rename_i h; have := isSquare_iff.1 h; omega
  · omega
theorem square_bd (f r : Int) : -1 ≤ spSquare f r ∧ spSquare f r < 90 := by
  unfold spSquare; split
  · rename_i h; simp at h; omega
  · omega
def spStep (fr a b : Int) : Int := spSquare (spFile fr + a) (spRank fr + b)
theorem step_bd (fr a b : Int) : -1 ≤ spStep fr a b ∧ spStep fr a b < 90 := square_bd _ _
theorem step_wrap {fr a b : Int} (ha : SM a) (hb : SM b) : spSquare (IntKind.i64.wrap (spFile fr + a)) (IntKind.i64.wrap (spRank fr + b)) = spStep fr a b := by
  have h1 := file_bd fr
  have h2 := rank_bd fr
  have h3 := ha.lo; have h4 := ha.hi; have h5 := hb.lo; have h6 := hb.hi
  rw [wrap64 (by omega) (by omega), wrap64 (by omega) (by omega)]; rfl
theorem neg_wrap {a : Int} (ha : SM a) : IntKind.i64.wrap (0 - a) = -a := by
  have h3 := ha.lo; have h4 := ha.hi
  rw [wrap64 (by omega) (by omega)]; omega
theorem SM.neg {a : Int} (ha : SM a) : SM (-a) := by
  have h3 := ha.lo; have h4 := ha.hi
  exact .of (by omega) (by omega)
def spFour (fr a b : Int) : List Int := [spStep fr a b, spStep fr (-a) b, spStep fr a (-b), spStep fr (-a) (-b)]
def spEmpty (p : ByteArray) (n : Int) : Bool := spIsSquare n && (byteAt p n.toNat == 46)
/-- The squares of a way, on to the board's end. -/
def ray (fr a b : Int) : Nat → Int → List Int
  | 0, _ => []
  | k + 1, i => if spIsSquare (spStep fr (i * a) (i * b)) then spStep fr (i * a) (i * b) :: ray fr a b k (i + 1) else []
def way (fr a b : Int) : List Int := ray fr a b 12 1
def free (p : ByteArray) (n : Int) : Bool := byteAt p n.toNat == 46
def blk (p : ByteArray) (l : List Int) : List Int := l.filter fun n => !free p n
def nth (l : List Int) (i : Nat) : Int := l.getD i (-1)
def spFree (p : ByteArray) (fr a b : Int) : List Int := (way fr a b).takeWhile (free p)
def spFirst2 (p : ByteArray) (fr a b : Int) (i : Nat) : Int := nth (blk p (way fr a b)) i
theorem ray_len (fr a b : Int) (k : Nat) : ∀ i, (ray fr a b k i).length ≤ k := by
  induction k with
  | zero => intro i; simp [ray]
  | succ k ih => intro i; unfold ray; split
                 · simp; exact ih _
                 · simp
theorem way_len (fr a b : Int) : (way fr a b).length ≤ 12 := ray_len _ _ _ _ _
theorem dir_stop {fr a b i : Int} (hd : Dir a b) (hi : 10 ≤ i) : spIsSquare (spStep fr (i * a) (i * b)) = false := by
  have h1 := file_bd fr
  have h2 := rank_bd fr
  have : spStep fr (i * a) (i * b) = -1 := by
    unfold spStep spSquare
    rw [if_neg]
    simp only [Bool.and_eq_true, decide_eq_true_eq, not_and, Int.not_le, Int.not_lt]
    rcases hd.is with ⟨rfl, rfl⟩ | ⟨rfl, rfl⟩ | ⟨rfl, rfl⟩ | ⟨rfl, rfl⟩
    · intro h; omega
    · intro h; omega
    · rintro ⟨h, h3⟩
      have : spFile fr ≠ -1 := by omega
      have : spRank fr ≠ -1 := by
        intro h4
        apply this
        unfold spRank at h4; unfold spFile
        split at h4
        · rename_i h5; have := isSquare_iff.1 h5; omega
        · rename_i h5; rw [if_neg h5]
      omega
    · intro h; omega
  rw [this]; rfl
/-- The scan's state: what lies behind is a way's beginning. -/
structure Scan (fr a b : Int) (d : List Int) : Prop where
  le : d.length ≤ 9
  eq : way fr a b = d ++ ray fr a b (12 - d.length) (Int.ofNat (d.length + 1))
theorem Scan.start {fr a b : Int} : Scan fr a b [] := ⟨by simp, rfl⟩
theorem Scan.next {fr a b : Int} {d : List Int} (h : Scan fr a b d) (hd : Dir a b) (hs : spIsSquare (spStep fr (Int.ofNat (d.length + 1) * a) (Int.ofNat (d.length + 1) * b)) = true) :
    Scan fr a b (d ++ [spStep fr (Int.ofNat (d.length + 1) * a) (Int.ofNat (d.length + 1) * b)]) := by
  have hle := h.le
  have h9 : d.length ≤ 8 := by
    by_cases h9 : d.length ≤ 8
    · exact h9
    · rw [dir_stop hd (by simp; omega)] at hs; cases hs
  refine ⟨by simp; omega, ?_⟩
  have e := h.eq
  rw [show 12 - d.length = (12 - (d.length + 1)) + 1 by omega, ray, if_pos hs] at e
  rw [e]
  simp [List.append_assoc]
theorem Scan.stop {fr a b : Int} {d : List Int} (h : Scan fr a b d) (hs : spIsSquare (spStep fr (Int.ofNat (d.length + 1) * a) (Int.ofNat (d.length + 1) * b)) = false) : way fr a b = d := by
  have e := h.eq
  have hle := h.le
  rw [show 12 - d.length = (12 - (d.length + 1)) + 1 by omega, ray, if_neg (by rw [hs]; simp), List.append_nil] at e
  exact e
theorem blk_app (p : ByteArray) (l m : List Int) : blk p (l ++ m) = blk p l ++ blk p m := by simp [blk]
theorem Scan.two {p : ByteArray} {fr a b : Int} {d : List Int} (h : Scan fr a b d) (h2 : 2 ≤ (blk p d).length) :
    spFree p fr a b = d.takeWhile (free p) ∧ spFirst2 p fr a b 0 = nth (blk p d) 0 ∧ spFirst2 p fr a b 1 = nth (blk p d) 1 := by
  unfold spFree spFirst2
  rw [h.eq, blk_app]
  refine ⟨?_, ?_, ?_⟩
  · rw [List.takeWhile_append, if_neg]
    intro h3
    have : blk p d = [] := by
      have : d.takeWhile (free p) = d := List.IsPrefix.eq_of_length (List.takeWhile_prefix _) h3
      unfold blk
      rw [List.filter_eq_nil_iff]
      intro x hx
      have := List.all_takeWhile (p := free p) (l := d)
      rename_i e
      rw [e, List.all_eq_true] at this
      simp [this x hx]
    rw [this] at h2; simp at h2
  · unfold nth; simp only [List.getD_eq_getElem?_getD]; rw [List.getElem?_append_left (by omega)]
  · unfold nth; simp only [List.getD_eq_getElem?_getD]; rw [List.getElem?_append_left (by omega)]
/-- What has been seen. -/
theorem free_more {p : ByteArray} {d : List Int} {n : Int} (h0 : (blk p d).length = 0) (hn : free p n = true) : (d ++ [n]).takeWhile (free p) = d.takeWhile (free p) ++ [n] := by
  have : ∀ x ∈ d, free p x = true := by
    have : blk p d = [] := List.length_eq_zero_iff.1 h0
    unfold blk at this
    rw [List.filter_eq_nil_iff] at this
    intro x hx; simpa using this x hx
  have e : d.takeWhile (free p) = d := by
    clear h0
    induction d with
    | nil => rfl
    | cons x l ih => rw [List.takeWhile_cons, if_pos (this x (by simp)), ih (fun y hy => this y (by simp [hy]))]
  rw [List.takeWhile_append, e, if_pos rfl]
  simp [hn]
theorem free_same {p : ByteArray} {d : List Int} {n : Int} (h0 : (blk p d).length ≠ 0) : (d ++ [n]).takeWhile (free p) = d.takeWhile (free p) := by
  rw [List.takeWhile_append, if_neg]
  intro h3
  apply h0
  have e : d.takeWhile (free p) = d := List.IsPrefix.eq_of_length (List.takeWhile_prefix _) h3
  rw [List.length_eq_zero_iff]
  unfold blk
  rw [List.filter_eq_nil_iff]
  intro x hx
  have := List.all_takeWhile (p := free p) (l := d)
  rw [e, List.all_eq_true] at this
  simp [this x hx]
theorem free_none {p : ByteArray} {d : List Int} {n : Int} (hn : free p n = false) : (d ++ [n]).takeWhile (free p) = d.takeWhile (free p) := by
  rw [List.takeWhile_append]
  split
  · rename_i h
    have e : d.takeWhile (free p) = d := List.IsPrefix.eq_of_length (List.takeWhile_prefix _) h
    rw [e]; simp [hn]
  · rfl
theorem blk_free {p : ByteArray} {d : List Int} {n : Int} (hn : free p n = true) : blk p (d ++ [n]) = blk p d := by simp [blk, hn]
theorem blk_more {p : ByteArray} {d : List Int} {n : Int} (hn : free p n = false) : blk p (d ++ [n]) = blk p d ++ [n] := by simp [blk, hn]
end Go.X

namespace Go.X
open Go

def spOk (n side : Int) : Bool := decide (0 ≤ n) && decide (n < 90) && (side == 0 || side == 1)
theorem ok_bad {n side : Int} (h : (decide (n < 0) || decide (n > 89) || side != 0 && side != 1) = true) : spOk n side = false := by
  simp [spOk] at *; omega
theorem ok_good {n side : Int} (h : (decide (n < 0) || decide (n > 89) || side != 0 && side != 1) = false) : spOk n side = true := by
  simp [spOk] at *; omega
def spTurned (n side : Int) : Int := if side = 1 then 89 - n else n
def spSF (n side : Int) : Int := if spOk n side then spTurned n side % 9 else 0
def spSR (n side : Int) : Int := if spOk n side then spTurned n side / 9 else 0
def spPal (f r : Int) : Bool := decide (3 ≤ f) && decide (f ≤ 5) && decide (r ≤ 2)
def spOvr (r : Int) : Bool := decide (5 ≤ r)
def spAdv (f r : Int) : Bool := spPal f r && ((IntKind.i64.wrap (f + r)).tmod 2 == 1)
def spEle (f r : Int) : Bool := decide (r ≤ 4) && (r.tmod 2 == 0) && (f.tmod 4 == IntKind.i64.wrap (2 - r.tmod 4))
def spPwn (f r : Int) : Bool := spOvr r || (decide (3 ≤ r) && (f.tmod 2 == 0))
def spMay (c n : Int) : Bool :=
  if spOk n (spSide c) then
    (if spKind c = 75 then spPal (spSF n (spSide c)) (spSR n (spSide c))
    else if spKind c = 65 then spAdv (spSF n (spSide c)) (spSR n (spSide c))
    else if spKind c = 66 then spEle (spSF n (spSide c)) (spSR n (spSide c))
    else if spKind c = 80 then spPwn (spSF n (spSide c)) (spSR n (spSide c))
    else true)
  else false
def spOver (n side : Int) : Bool := spOk n side && spOvr (spSR n side)

end Go.X

namespace Go.X
open Go

def spOf (side c : Int) : Bool := decide (0 ≤ side) && (spSide c == side)
def spUpTo (p : ByteArray) (f : Int → Bool) : Nat → BS
  | 0 => (0, 0)
  | n + 1 => if f (byteAt p n) then spWith (spUpTo p f n) n else spUpTo p f n
def spSet (p : ByteArray) (f : Int → Bool) : BS := if spIs p then spUpTo p f 90 else (0, 0)
theorem upTo_lt (p : ByteArray) (f : Int → Bool) (n : Nat) : (spUpTo p f n).1 < 2 ^ 45 ∧ (spUpTo p f n).2 < 2 ^ 45 := by
  induction n with
  | zero => exact ⟨by show (0 : Nat) < 2 ^ 45; decide, by show (0 : Nat) < 2 ^ 45; decide⟩
  | succ n ih => unfold spUpTo; split; exact or_lt _ _; exact ih
theorem wrapS {i : Nat} (h : i < 1000) : IntKind.i64.wrap (Int.ofNat i + 1) = Int.ofNat (i + 1) := by
  rw [wrap64] <;> simp <;> omega
theorem set_lt (p : ByteArray) (f : Int → Bool) : (spSet p f).1 < 2 ^ 45 ∧ (spSet p f).2 < 2 ^ 45 := by
  unfold spSet
  split
  · exact upTo_lt _ _ _
  · exact ⟨by show (0 : Nat) < 2 ^ 45; decide, by show (0 : Nat) < 2 ^ 45; decide⟩
end Go.X

namespace Go.X
open Go

theorem side_bd (c : Int) : -1 ≤ spSide c ∧ spSide c ≤ 1 := by
  unfold spSide; split
  · omega
  · split <;> omega
def spGen (fr pc : Int) : List Int := (spFour fr 1 0 ++ spFour fr 0 1).filter (spMay pc)
def spAdvL (fr pc : Int) : List Int := (spFour fr 1 1).filter (spMay pc)
def spEleL (p : ByteArray) (fr pc : Int) : List Int := ((spFour fr 2 2).filter (spMay pc)).filter fun n => spEmpty p ((fr + n) / 2)
def dirs : List (Int × Int) := [(1, 0), (-1, 0), (0, 1), (0, -1)]
def horse1 (p : ByteArray) (fr : Int) (w : Int × Int) : List Int := if spEmpty p (spStep fr w.1 w.2) then [spStep fr (2 * w.1 + w.2) (2 * w.2 + w.1), spStep fr (2 * w.1 - w.2) (2 * w.2 - w.1)] else []
def spHorse (p : ByteArray) (fr : Int) : List Int := dirs.flatMap (horse1 p fr)
def line1 (p : ByteArray) (fr : Int) (second : Bool) (w : Int × Int) : List Int := spFree p fr w.1 w.2 ++ [spFirst2 p fr w.1 w.2 (if second then 1 else 0)]
def spLines (p : ByteArray) (fr : Int) (second : Bool) : List Int := dirs.flatMap (line1 p fr second)
def spPawnL (fr pc : Int) : List Int := [spStep fr 0 (1 - 2 * spSide pc)] ++ if spOver fr (spSide pc) then [spStep fr 1 0, spStep fr (-1) 0] else []
def spWay (p : ByteArray) (fr pc : Int) : List Int :=
  if spKind pc = 75 then spGen fr pc else if spKind pc = 65 then spAdvL fr pc else if spKind pc = 66 then spEleL p fr pc
  else if spKind pc = 78 then spHorse p fr else if spKind pc = 82 then spLines p fr false else if spKind pc = 67 then spLines p fr true
  else if spKind pc = 80 then spPawnL fr pc else []
theorem dirs_dir {i : Nat} (h : i < 4) : Dir (dirs.getD i (0, 0)).1 (dirs.getD i (0, 0)).2 := by
  refine ⟨?_, trivial, trivial⟩
  rcases (by omega : i = 0 ∨ i = 1 ∨ i = 2 ∨ i = 3) with rfl | rfl | rfl | rfl <;> simp [dirs]
theorem dir_w1 {a b : Int} (h : Dir a b) : IntKind.i64.wrap (IntKind.i64.wrap (2 * a) + b) = 2 * a + b := by
  rcases h.is with ⟨rfl, rfl⟩ | ⟨rfl, rfl⟩ | ⟨rfl, rfl⟩ | ⟨rfl, rfl⟩ <;> decide
theorem dir_w2 {a b : Int} (h : Dir a b) : IntKind.i64.wrap (IntKind.i64.wrap (2 * b) + a) = 2 * b + a := by
  rcases h.is with ⟨rfl, rfl⟩ | ⟨rfl, rfl⟩ | ⟨rfl, rfl⟩ | ⟨rfl, rfl⟩ <;> decide
theorem dir_w3 {a b : Int} (h : Dir a b) : IntKind.i64.wrap (IntKind.i64.wrap (2 * a) - b) = 2 * a - b := by
  rcases h.is with ⟨rfl, rfl⟩ | ⟨rfl, rfl⟩ | ⟨rfl, rfl⟩ | ⟨rfl, rfl⟩ <;> decide
theorem dir_w4 {a b : Int} (h : Dir a b) : IntKind.i64.wrap (IntKind.i64.wrap (2 * b) - a) = 2 * b - a := by
  rcases h.is with ⟨rfl, rfl⟩ | ⟨rfl, rfl⟩ | ⟨rfl, rfl⟩ | ⟨rfl, rfl⟩ <;> decide
theorem dir_sm {a b : Int} (h : Dir a b) : SM a ∧ SM b ∧ SM (2 * a + b) ∧ SM (2 * b + a) ∧ SM (2 * a - b) ∧ SM (2 * b - a) := by
  rcases h.is with ⟨rfl, rfl⟩ | ⟨rfl, rfl⟩ | ⟨rfl, rfl⟩ | ⟨rfl, rfl⟩ <;> refine ⟨.of ?_ ?_, .of ?_ ?_, .of ?_ ?_, .of ?_ ?_, .of ?_ ?_, .of ?_ ?_⟩ <;> decide
theorem dirs_next {i : Nat} (h : i < 4) (f : Int × Int → List Int) : (dirs.take (i + 1)).flatMap f = (dirs.take i).flatMap f ++ f (dirs.getD i (0, 0)) := by
  rcases (by omega : i = 0 ∨ i = 1 ∨ i = 2 ∨ i = 3) with rfl | rfl | rfl | rfl <;> simp [dirs]
theorem dirs_len {f : Int × Int → List Int} (h : ∀ w, (f w).length ≤ 13) {i : Nat} (hi : i ≤ 4) : ((dirs.take i).flatMap f).length ≤ 52 := by
  have h1 := h (1, 0); have h2 := h (-1, 0); have h3 := h (0, 1); have h4 := h (0, -1)
  rcases (by omega : i = 0 ∨ i = 1 ∨ i = 2 ∨ i = 3 ∨ i = 4) with rfl | rfl | rfl | rfl | rfl <;> simp [dirs] <;> omega
theorem free_len (p : ByteArray) (fr a b : Int) : (spFree p fr a b).length ≤ 12 := Nat.le_trans ((List.takeWhile_prefix _).length_le) (way_len _ _ _)
theorem line1_len (p : ByteArray) (fr : Int) (s : Bool) (w : Int × Int) : (line1 p fr s w).length ≤ 13 := by
  have := free_len p fr w.1 w.2
  simp [line1]; omega
/-- A square. -/
structure Sq (n : Int) : Prop where
  lo : 0 ≤ n
  hi : n < 90
  u : True
end Go.X

namespace Go.X
open Go.RowKit Go.Sort

def sortI (l : List Int) : List Int := l.mergeSort fun x y => decide (x ≤ y)
def cSortI (T : TypeId) : Con
  | [.row id ⟨T', .int .i64, l, true⟩] => if T' = T then some ⟨[l.length ≤ 4000000000], .tup [], [], [(id, ⟨T', .int .i64, sortI l, true⟩)]⟩ else none
  | _ => none
theorem sortI_len (l : List Int) : (sortI l).length = l.length := List.length_mergeSort _

theorem valsI (l : List Int) : valsOf (.int .i64) l = l.map (Value.int .i64) := by
  unfold valsOf
  induction l with
  | nil => rfl
  | cons x l ih => simp only [List.flatMap_cons, EK.vals, List.map_cons, List.singleton_append]; rw [← ih]; rfl

theorem con_sort {P : Program} {G : Nat → World → Prop} {f : FuncId} {fn : Func} {T : TypeId} (hf : P.funcs[f]? = some fn) (hb : fn.body.isSome = true) (hname : (fn.name == "runtime.NumGoroutine") = false)
    (hs : ∀ (blk off cap : Nat) (zs : List Int) (w : World), Holds (Value.int .i64) w blk off zs.toArray → blk < w.heap.size → zs.length < 4611686018427387904 →
      Calls P f #[.slice (some ⟨blk, off, none⟩) zs.length cap] w fun e w' => e = .returned (.tuple #[]) ∧ ∃ n os, w' = grow (putRow (Value.int .i64) (Sort.ahead w n) blk off (zs.mergeSort fun x y => decide (x ≤ y)).toArray) os)
    (hn : ∀ (p : Option Addr) (cap : Nat) (w : World), Calls P f #[.slice p 0 cap] w fun e w' => e = .returned (.tuple #[]) ∧ w' = w) : ConOK P G f (cSortI T) := by
  intro c e st w avs rvs cr vals fb fr hG hh hres hargs hcr hpre _ _
  refine ⟨⟨fn, hf, hb, hname⟩, ?_⟩
  unfold cSortI at hcr
  split at hcr
  · rename_i id T' l
    split at hcr
    · cases hcr
      have hlen := hpre _ (List.mem_singleton.2 rfl)
      -- the argument
      obtain ⟨v, rfl⟩ : ∃ v, avs = [v] := by
        cases avs with
        | nil => simp [allRes] at hres
        | cons v l' => cases l' with
          | nil => exact ⟨v, rfl⟩
          | cons u l'' =>
            simp only [allRes] at hres
            split at hres
            · split at hres
              · rename_i m hm
                split at hm
                · split at hm
                  · cases hm; cases hres
                  · cases hm
                · cases hm
              · cases hres
            · cases hres
      obtain ⟨x, xs, rfl, hx, hxs⟩ := hargs
      simp only [RL] at hxs
      subst hxs
      simp only [allRes] at hres
      split at hres
      · rename_i rv hrv
        simp only [Option.some.injEq, List.cons.injEq, and_true] at hres
        subst hres
        unfold resolve at hrv
        cases v with
        | row id' =>
          simp only [resolveF] at hrv
          split at hrv
          · rename_i r hr
            simp only [Option.some.injEq, RV.row.injEq] at hrv
            obtain ⟨rfl, rfl⟩ := hrv
            obtain ⟨_, rfl⟩ := hx
            obtain ⟨hpos, hown, hmine⟩ := hh.row _ _ hr
            have hnew : ∀ w', HeapOK c e ⟨st.tmps, st.boxes, putAt none st.rows id' (some ⟨T', .int .i64, sortI l, true⟩), st.ys, st.pin⟩ w' → Pres st e ⟨st.tmps, st.boxes, putAt none st.rows id' (some ⟨T', .int .i64, sortI l, true⟩), st.ys, st.pin⟩ e [] →
                ∃ v e', Ending.returned (.tuple #[]) = .returned v ∧ HeapOK c e' ((CR.eff ⟨[l.length ≤ 4000000000], .tup [], [], [(id', ⟨T', .int .i64, sortI l, true⟩)]⟩ fb fr).apply fb fr st) w' ∧
                  Pres st e ((CR.eff ⟨[l.length ≤ 4000000000], .tup [], [], [(id', ⟨T', .int .i64, sortI l, true⟩)]⟩ fb fr).apply fb fr st) e' [] ∧
                  R ((CR.eff ⟨[l.length ≤ 4000000000], .tup [], [], [(id', ⟨T', .int .i64, sortI l, true⟩)]⟩ fb fr).apply fb fr st) e' (.tup []) v := by
              intro w' h1 h2
              refine ⟨.tuple #[], e, rfl, ?_, ?_, ⟨[], rfl, rfl⟩⟩
              · obtain ⟨ts, bs, rs, ys, pn⟩ := st; exact h1
              · obtain ⟨ts, bs, rs, ys, pn⟩ := st; exact h2
            rcases hown with ⟨hv, hl0⟩ | ⟨g, cap, cur, fz, hv, hgg, hfz, hnc, hcm, hcs, htake⟩
            · -- nil
              have hl0' : l = [] := hl0
              subst hl0'
              rw [hv]
              refine (hn none 0 w).mono ?_
              rintro en w' ⟨rfl, rfl⟩
              have hs0 : sortI [] = [] := by simp [sortI]
              refine hnew _ ?_ ?_
              all_goals
                have hsame : ∀ i, getK none st.rows i = getK none (putAt none st.rows id' (some ⟨T', .int .i64, sortI [], true⟩)) i := by
                  intro i
                  rw [getK_putAt, hs0]
                  by_cases hi : i = id'
                  · subst hi; rw [if_pos rfl]; exact hr
                  · rw [if_neg hi]
                have hx := ext_heap (c := c) (e := e) (w := w') (st := st) (st' := ⟨st.tmps, st.boxes, putAt none st.rows id' (some ⟨T', .int .i64, sortI [], true⟩), st.ys, st.pin⟩) (fun _ => rfl) hsame rfl rfl
              · exact hx.2 hh
              · refine pres_of rfl rfl (fun i b hi => ⟨⟨b, hi⟩, rfl⟩) (fun i q _ hq => ⟨⟨q, by rw [← hsame]; exact hq, rfl, Nat.le_refl _⟩, rfl⟩)
            · have hlen' : l.length ≤ 4000000000 := hlen
              rw [hv]
              have htake' : cur.toList.take l.length = l.map (Value.int .i64) := by
                have := htake
                rw [valsI] at this
                simpa [EK.size] using this
              have hcs' : cur.size = cap := by simpa [EK.size] using hcs
              have hnc' : l.length ≤ cap := hnc
              have hfz' : fz = (0, 0) := hfz
              subst hfz'
              have hglt : g < w.heap.size := (Array.getElem?_eq_some_iff.1 hgg).1
              have hat : ∀ j, j < l.length → cur[j]? = some (.int .i64 (l.toArray[j]!)) := by
                intro j hj
                have h1 := congrArg (fun m => m[j]?) htake'
                simp only [List.getElem?_take, if_pos hj, List.getElem?_map, List.getElem?_eq_getElem hj, Option.map_some, Array.getElem?_toList] at h1
                rw [h1]; simp [hj]
              have hholds : Holds (Value.int .i64) w g 0 l.toArray := by
                intro j hj
                have hj' : j < l.length := by simpa using hj
                refine ⟨?_, ?_⟩
                · unfold World.cell?
                  simp only [hgg, Nat.zero_add]
                  rw [hat j hj']; rfl
                · unfold World.frozen?
                  simp [hgg]
              refine (hs g 0 cap l w hholds hglt (by omega)).mono ?_
              rintro en w' ⟨rfl, n, os, rfl⟩
              obtain ⟨w1, h1, h2, h3⟩ := turnRowL (P := P) (id := id') (r := ⟨T', .int .i64, l, true⟩) (lo := 0) (m := sortI l) hh hr rfl (by rw [sortI_len]; simp) hv
              have hst := run_storeCells_fz P g 0 T' (0, 0) (valsOf (.int .i64) (sortI l)) 0 cur w hgg (by rw [valsI, List.length_map, sortI_len]; omega) (fun v hv' => by
                rw [valsI, List.mem_map] at hv'; obtain ⟨q, _, rfl⟩ := hv'; rfl) (.inr rfl)
              have hadd : (⟨g, 0, none⟩ : Addr).add (0 * (EK.int IntKind.i64).size) = ⟨g, 0, none⟩ := by simp [Addr.add_lit]
              rw [hadd, hst] at h1
              cases h1
              have hrow : (l.take 0 ++ sortI l ++ l.drop (0 + (sortI l).length)) = sortI l := by simp [sortI_len]
              have e1 : (⟨T', .int .i64, (⟨T', .int .i64, l, true⟩ : Row).l.take 0 ++ sortI l ++ (⟨T', .int .i64, l, true⟩ : Row).l.drop (0 + (sortI l).length), true⟩ : Row) = ⟨T', .int .i64, sortI l, true⟩ := by
                show (⟨T', .int .i64, l.take 0 ++ sortI l ++ l.drop (0 + (sortI l).length), true⟩ : Row) = _
                rw [hrow]
              rw [e1] at h2 h3
              refine hnew _ (h2.moved ⟨rfl, rfl, rfl, ?_, fun k hk => ?_⟩) h3
              · simp [grow, putRow, mapBlock, Sort.ahead, World.setRow]
              · have hk' : k < w.heap.size := by simpa [World.setRow] using hk
                have hL : (grow (putRow (Value.int .i64) (Sort.ahead w n) g 0 (l.mergeSort fun x y => decide (x ≤ y)).toArray) os).heap[k]? = (w.heap.modify g (onCells (putCells (Value.int .i64) 0 (sortI l).toArray)))[k]? := by
                  show (w.heap.modify g _ ++ os)[k]? = _
                  rw [Array.getElem?_append_left (by simpa using hk')]; rfl
                rw [hL, Array.getElem?_modify]
                by_cases hkg : g = k
                · subst hkg
                  rw [if_pos rfl, hgg, setRow_heap w g cur _ T' (0, 0) hgg]
                  simp only [Option.map_some, onCells]
                  congr 2
                  apply Array.ext_getElem?
                  intro j
                  simp only [putCells, Array.getElem?_mapIdx, Nat.zero_le, true_and, Nat.zero_add, Nat.sub_zero, List.getElem?_toArray, List.take_zero, List.nil_append, List.size_toArray, Nat.add_zero]
                  rw [valsI]
                  by_cases hj : j < (sortI l).length
                  · have hjc : j < cur.size := by rw [sortI_len] at hj; omega
                    rw [List.getElem?_append_left (by simpa using hj), List.getElem?_map, List.getElem?_eq_getElem hj, Array.getElem?_eq_getElem hjc]
                    simp [hj]
                  · rw [List.getElem?_append_right (by simp; omega), List.getElem?_drop, List.length_map]
                    rw [show (sortI l).length + (j - (sortI l).length) = j by omega, Array.getElem?_toList]
                    cases cur[j]? with
                    | none => rfl
                    | some y => simp [hj]
                · rw [if_neg hkg, setRow_below k (fun h => hkg h.symm)]
          · cases hrv
        | _ =>
          simp only [resolveF] at hrv
          first
            | (cases hrv; done)
            | (split at hrv <;> first | (cases hrv; done) | (split at hrv <;> cases hrv))
      · cases hres
    · cases hcr
  · cases hcr
end Go.X

namespace Go.X
open Go

/-- What a piece's way asks. -/
structure WayOk (p : ByteArray) (fr pc : Int) : Prop where
  is : spKind pc ≠ 0 → p.size = 90 ∧ 0 ≤ fr ∧ fr < 90
  u : True
  v : True
theorem WayOk.s90 {p : ByteArray} {fr pc k : Int} (h : WayOk p fr pc) (hk : (spKind pc == k) = true) (h0 : k ≠ 0) : S90 p := ⟨(h.is (by rw [beqT hk]; exact h0)).1, trivial, trivial⟩
theorem WayOk.sq {p : ByteArray} {fr pc k : Int} (h : WayOk p fr pc) (hk : (spKind pc == k) = true) (h0 : k ≠ 0) : Sq fr := by
  have := h.is (by rw [beqT hk]; exact h0)
  exact ⟨by omega, by omega, trivial⟩
def spTaken (p : ByteArray) (pc n : Int) : Bool := !spIsSquare n || (spSide (byteAt p n.toNat) == spSide pc)
def spAllOf (p : ByteArray) (fr pc : Int) : List Int := spCompact (sortI ((spWay p fr pc).filter fun n => !spTaken p pc n))
def spAll (p : ByteArray) (fr : Int) : List Int := spAllOf p fr (spAt p fr)
def spCan (p : ByteArray) (fr to : Int) : Bool := (spAll p fr).any fun x => to == x
theorem way_none {p : ByteArray} {fr pc : Int} (h : spKind pc = 0) : spWay p fr pc = [] := by simp [spWay, h]
theorem kind_dot : spKind 46 = 0 := by decide
theorem at_ok {p : ByteArray} {fr : Int} (h : spKind (spAt p fr) ≠ 0) : spIs p = true ∧ 0 ≤ fr ∧ fr < 90 := by
  unfold spAt at h
  split at h
  · rename_i h1
    simp only [Bool.and_eq_true, isSquare_iff] at h1
    exact ⟨h1.2, h1.1⟩
  · exact absurd kind_dot h
theorem way_ok (p : ByteArray) (fr : Int) : WayOk p fr (spAt p fr) := ⟨fun h => ⟨spIs_size (at_ok h).1, (at_ok h).2⟩, trivial, trivial⟩
theorem way_len' (p : ByteArray) (fr pc : Int) : (spWay p fr pc).length ≤ 100 := by
  have hh : (spHorse p fr).length ≤ 52 := by have := dirs_len (f := horse1 p fr) (fun w => by unfold horse1; split <;> simp) (Nat.le_refl 4); simpa [spHorse, dirs] using this
  have hl : ∀ s, (spLines p fr s).length ≤ 52 := fun s => by have := dirs_len (f := line1 p fr s) (fun w => line1_len _ _ _ w) (Nat.le_refl 4); simpa [spLines, dirs] using this
  have h1 : (spGen fr pc).length ≤ 8 := List.length_filter_le _ _
  have h2 : (spAdvL fr pc).length ≤ 4 := List.length_filter_le _ _
  have h3 : (spEleL p fr pc).length ≤ 4 := Nat.le_trans (List.length_filter_le _ _) (List.length_filter_le _ _)
  have h4 : (spPawnL fr pc).length ≤ 3 := by unfold spPawnL; split <;> simp
  have h5 := hl false; have h6 := hl true
  unfold spWay
  repeat' split
  all_goals first | omega | simp
theorem way_ne (p : ByteArray) (fr : Int) : NE (spWay p fr (spAt p fr)) p := by
  refine ⟨?_, trivial, trivial⟩
  by_cases h : spKind (spAt p fr) = 0
  · exact .inl (way_none h)
  · exact .inr (spIs_size (at_ok h).1)
theorem cstep_len (acc : List Int) (x : Int) : (cstep acc x).length ≤ acc.length + 1 := by unfold cstep; split <;> simp
theorem foldl_len (l : List Int) : ∀ acc, (l.foldl cstep acc).length ≤ acc.length + l.length := by
  induction l with
  | nil => intro acc; simp
  | cons x l ih => intro acc; have := ih (cstep acc x); have := cstep_len acc x; simp only [List.foldl_cons, List.length_cons]; omega
theorem compact_len (l : List Int) : (spCompact l).length ≤ l.length := by have := foldl_len l []; simpa [spCompact] using this
theorem taken_len (p : ByteArray) (fr pc : Int) (f : Int → Bool) : ((spWay p fr pc).filter f).length ≤ 100 := Nat.le_trans (List.length_filter_le _ _) (way_len' _ _ _)
theorem all_len (p : ByteArray) (fr : Int) : (spAll p fr).length ≤ 100 := by
  unfold spAll spAllOf
  refine Nat.le_trans (compact_len _) ?_
  rw [sortI_len]; exact taken_len _ _ _ _
theorem may_sq {c n : Int} (h : spMay c n = true) : 0 ≤ n ∧ n < 90 := by
  unfold spMay at h
  split at h
  · rename_i ho; simp [spOk] at ho; omega
  · cases h
end Go.X

namespace Go.X
open Go

/-- How many squares are not empty, from i on, step by step, ahead of m. -/
def cntGo (p : ByteArray) (s m : Int) : Nat → Int → Int
  | 0, _ => 0
  | k + 1, i => if i < m then (if byteAt p i.toNat = 46 then 0 else 1) + cntGo p s m k (i + s) else 0
def imin (a b : Int) : Int := if b < a then b else a
def imax (a b : Int) : Int := if b > a then b else a
def spCnt (p : ByteArray) (a b s : Int) : Int := cntGo p s (imax a b) 90 (imin a b + s)
def spBetween (p : ByteArray) (a b : Int) : Int :=
  if !spIs p || !spIsSquare a || !spIsSquare b || a == b then -1
  else if spRank a = spRank b then spCnt p a b 1 else if spFile a = spFile b then spCnt p a b 9 else -1
def spIsSide (s : Int) : Bool := (s == 0) || (s == 1)
def spFind (p : ByteArray) (c : Int) : List Int := spList (spSet p (· == c))
def spPieces (p : ByteArray) (side : Int) : List Int := spList (spSet p (spOf side))
def pawnOf (side : Int) : Int := byteAt (.mk #[112, 80]) side.toNat
def kingOf (side : Int) : Int := byteAt (.mk #[75, 107]) side.toNat
def spGeneral (p : ByteArray) (side : Int) : Int := if spIsSide side then (spFind p (kingOf side)).headD (-1) else -1
def spAttackers (p : ByteArray) (n side : Int) : List Int :=
  if spIsSide side && decide (0 ≤ spFile n) then (spPieces (spPut p n (pawnOf side)) side).filter fun fr => spCan (spPut p n (pawnOf side)) fr n else []
def spFacing (p : ByteArray) : Bool := decide (0 ≤ spGeneral p 0) && decide (0 ≤ spGeneral p 1) && (spFile (spGeneral p 0) == spFile (spGeneral p 1)) && (spBetween p (spGeneral p 0) (spGeneral p 1) == 0)
def spIn (p : ByteArray) (side : Int) : Bool := decide (0 ≤ spGeneral p side) && decide (0 < (spAttackers p (spGeneral p side) (1 - side)).length)

theorem side_in {s : Int} (h : spIsSide s = true) : 0 ≤ s ∧ s < 2 := by simp [spIsSide] at h; omega
theorem pieces_len (p : ByteArray) (side : Int) : (spPieces p side).length ≤ 90 := spList_len _
end Go.X

namespace Go.X
open Go

/-- A place of a text. -/
structure InR (p : ByteArray) (n : Int) : Prop where
  lo : 0 ≤ n
  hi : n < p.size
  u : True
def spMoved (p : ByteArray) (fr to : Int) : ByteArray := spPut (spPut p to (byteAt p fr.toNat)) fr 46
def spSafe (p : ByteArray) (side fr to : Int) : Bool := if spKind (byteAt p to.toNat) = 75 then false else !spFacing (spMoved p fr to) && !spIn (spMoved p fr to) side
def spGCan (p : ByteArray) (side fr to : Int) : Bool :=
  decide (0 ≤ spSide (spAt p fr)) && (spSide (spAt p fr) == side) && spCan p fr to && spSafe p side fr to
def spGuarded (p : ByteArray) (fr to : Int) : Bool :=
  if spGCan p (spSide (spAt p fr)) fr to then (spAttackers (spMoved p fr to) to (1 - spSide (spAt p fr))).any fun n => spGCan (spMoved p fr to) (1 - spSide (spAt p fr)) n to else false
def spTo1 (p : ByteArray) (fr : Int) : List (Int × Int) := ((spAll p fr).filter fun to => byteAt p to.toNat != 46).map fun to => (fr, to)
def spReached (p : ByteArray) (side : Int) : List (Int × Int) := (spPieces p side).flatMap (spTo1 p)
def spTakes (p : ByteArray) (side : Int) : List (Int × Int) := (spReached p side).filter fun m => spSafe p side m.1 m.2

theorem mem_compact {x : Int} (l : List Int) : x ∈ spCompact l ↔ x ∈ l := by
  unfold spCompact
  have : ∀ (l acc : List Int), x ∈ l.foldl cstep acc ↔ x ∈ acc ∨ x ∈ l := by
    intro l
    induction l with
    | nil => intro acc; simp
    | cons y l ih =>
      intro acc
      rw [List.foldl_cons, ih]
      unfold cstep
      split
      · rename_i h
        have hy : y ∈ acc := List.mem_of_getLast? h
        simp only [List.mem_cons]
        constructor
        · rintro (h | h)
          · exact .inl h
          · exact .inr (.inr h)
        · rintro (h | rfl | h)
          · exact .inl h
          · exact .inl hy
          · exact .inr h
      · simp only [List.mem_append, List.mem_singleton, List.mem_cons, or_assoc, List.not_mem_nil, or_false]
  rw [this]; simp
theorem mem_sortI {x : Int} (l : List Int) : x ∈ sortI l ↔ x ∈ l := by unfold sortI; exact List.mem_mergeSort
theorem mem_all {p : ByteArray} {fr x : Int} : x ∈ spAll p fr ↔ x ∈ spWay p fr (spAt p fr) ∧ 0 ≤ x ∧ x < 90 ∧ spSide (byteAt p x.toNat) ≠ spSide (spAt p fr) := by
  unfold spAll spAllOf
  rw [mem_compact, mem_sortI, List.mem_filter]
  simp only [spTaken, Bool.not_or, Bool.not_not, Bool.and_eq_true, isSquare_iff, Bool.not_eq_true', beq_eq_false_iff_ne, ne_eq, and_assoc]
theorem all_is {p : ByteArray} {fr x : Int} (h : x ∈ spAll p fr) : spIs p = true ∧ (0 ≤ fr ∧ fr < 90) ∧ 0 ≤ x ∧ x < 90 := by
  rw [mem_all] at h
  have hk : spKind (spAt p fr) ≠ 0 := fun hk => by rw [way_none hk] at h; simp at h
  exact ⟨(at_ok hk).1, (at_ok hk).2, h.2.1, h.2.2.1⟩
theorem can_mem {p : ByteArray} {fr to : Int} : spCan p fr to = true ↔ to ∈ spAll p fr := by
  unfold spCan
  rw [List.any_eq_true]
  constructor
  · rintro ⟨x, h1, h2⟩; rw [beqT h2]; exact h1
  · intro h; exact ⟨to, h, by simp⟩
theorem can_in {p : ByteArray} {fr to : Int} (h : spCan p fr to = true) : InR p fr ∧ InR p to := by
  have h := all_is (can_mem.1 h)
  have h90 := spIs_size h.1
  exact ⟨⟨h.2.1.1, by omega, trivial⟩, ⟨h.2.2.1, by omega, trivial⟩⟩
theorem att_len (p : ByteArray) (n side : Int) : (spAttackers p n side).length ≤ 90 := by
  unfold spAttackers; split
  · exact Nat.le_trans (List.length_filter_le _ _) (pieces_len _ _)
  · simp
theorem gcan_in {p : ByteArray} {side fr to : Int} (h : spGCan p side fr to = true) : InR p fr ∧ InR p to := by
  unfold spGCan at h; simp only [Bool.and_eq_true] at h; exact can_in h.1.2
theorem wrap_side (c : Int) : IntKind.i64.wrap (1 - spSide c) = 1 - spSide c := by
  have := side_bd c
  exact wrap64 (by omega) (by omega)
/-- What has been taken when i pieces, and of the next one j squares, have come up. -/
def outT (p : ByteArray) (side : Int) (i : Nat) : List (Int × Int) := (((spPieces p side).take i).flatMap (spTo1 p)).filter fun m => spSafe p side m.1 m.2
def inT (p : ByteArray) (side fr : Int) (j : Nat) : List (Int × Int) := ((((spAll p fr).take j).filter fun to => byteAt p to.toNat != 46).map fun to => (fr, to)).filter fun m => spSafe p side m.1 m.2
theorem inT_len (p : ByteArray) (side fr : Int) {j : Nat} (h : j ≤ (spAll p fr).length) : (inT p side fr j).length ≤ 100 := by
  refine Nat.le_trans (List.length_filter_le _ _) ?_
  rw [List.length_map]
  refine Nat.le_trans (List.length_filter_le _ _) ?_
  have := all_len p fr
  rw [List.length_take]; omega
theorem outT_len (p : ByteArray) (side : Int) {i : Nat} (h : i ≤ (spPieces p side).length) : (outT p side i).length ≤ 9000 := by
  refine Nat.le_trans (List.length_filter_le _ _) ?_
  have key : ∀ l : List Int, (l.flatMap (spTo1 p)).length ≤ 100 * l.length := by
    intro l
    induction l with
    | nil => simp
    | cons x l ih =>
      rw [List.flatMap_cons, List.length_append, List.length_cons]
      have : (spTo1 p x).length ≤ 100 := by
        unfold spTo1; rw [List.length_map]; exact Nat.le_trans (List.length_filter_le _ _) (all_len _ _)
      omega
  refine Nat.le_trans (key _) ?_
  have := pieces_len p side
  rw [List.length_take]; omega
theorem outT_next (p : ByteArray) (side : Int) {i : Nat} (h : i < (spPieces p side).length) : outT p side (i + 1) = outT p side i ++ inT p side ((spPieces p side).getD i 0) (spAll p ((spPieces p side).getD i 0)).length := by
  unfold outT inT
  rw [List.take_succ_eq_append_getElem h, List.flatMap_append, List.filter_append, getD_getElem h, List.take_length]
  simp [spTo1]
theorem inT_next (p : ByteArray) (side fr : Int) {j : Nat} (h : j < (spAll p fr).length) : inT p side fr (j + 1) = inT p side fr j ++ if byteAt p ((spAll p fr).getD j 0).toNat != 46 && spSafe p side fr ((spAll p fr).getD j 0) then [(fr, (spAll p fr).getD j 0)] else [] := by
  unfold inT
  rw [List.take_succ_eq_append_getElem h, List.filter_append, List.map_append, List.filter_append, getD_getElem h]
  congr 1
  by_cases h1 : (byteAt p ((spAll p fr)[j]).toNat != 46) = true
  · rw [List.filter_cons_of_pos (by simpa using h1)]
    by_cases h2 : spSafe p side fr (spAll p fr)[j] = true
    · simp [h1, h2]
    · simp [h1, h2]
  · rw [List.filter_cons_of_neg (by simpa using h1)]
    simp [h1]
theorem outT_all (p : ByteArray) (side : Int) : outT p side (spPieces p side).length = spTakes p side := by
  unfold outT spTakes spReached; rw [List.take_length]
end Go.X
