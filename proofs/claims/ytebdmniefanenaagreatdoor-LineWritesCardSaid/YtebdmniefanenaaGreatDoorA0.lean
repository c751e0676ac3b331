/-
  Parts of the proof.
-/
import Derived.WalkKit
import Derived.Laws.StructEq
import Derived.Laws.OwnMore
import Derived.Laws.IdiomStrings
import Derived.Lib.AppendStr
import Derived.RangeFuncIn
import Derived.RangeFuncCalls
import Derived.OwnWalkIn

set_option linter.unusedSimpArgs false
set_option linter.unusedVariables false

namespace Go.X
open Go.RowKit
inductive EK where
  | int (k : IntKind) | bool | str | byte | pair (a b : EK)
  deriving DecidableEq, Repr

@[reducible] def EK.ty : EK → Type
  | .int _ => Int
  | .bool => Bool
  | .str => ByteArray
  | .byte => Int
  | .pair a b => a.ty × b.ty

def EK.dflt : (k : EK) → k.ty
  | .int _ => (0 : Int)
  | .bool => false
  | .str => ByteArray.empty
  | .byte => (0 : Int)
  | .pair a b => (a.dflt, b.dflt)

def EK.size : EK → Nat
  | .pair a b => a.size + b.size
  | _ => 1

inductive AV where
  | i (k : IntKind) (n : Int)
  | b (x : Bool)
  | s (x : ByteArray)
  | nilp | nilf | nili | nils
  | mp (b : Nat)
  | pt (b : Nat)
  | box (id off : Nat)
  | row (id : Nat)
  | view (id lo hi : Nat) (ex : Bool)
  | arrp (id : Nat)
  | elt (id ix sub : Nat)
  | fn (f : Nat) (caps : List AV)
  | yv
  | agg (l : List AV)
  | tup (l : List AV)
  | opt (g : Bool) (v : AV)
  | ifc (T : Nat) (v : AV)
  | any

def EK.av : (k : EK) → k.ty → List AV
  | .int k, n => [.i k n]
  | .bool, x => [.b x]
  | .str, x => [.s x]
  | .byte, n => [.i .u8 n]
  | .pair a b, p => a.av p.1 ++ b.av p.2

def EK.vals : (k : EK) → k.ty → List Value
  | .int k, n => [.int k n]
  | .bool, x => [.bool x]
  | .str, x => [.string x]
  | .byte, n => [.int .u8 n]
  | .pair a b, p => a.vals p.1 ++ b.vals p.2
def EK.of : (k : EK) → List AV → Option (k.ty × List AV)
  | .int k, .i k' n :: r => if k = k' then some (n, r) else none
  | .bool, .b x :: r => some (x, r)
  | .str, .s x :: r => some (x, r)
  | .byte, .i .u8 n :: r => some (n, r)
  | .pair a b, l => match a.of l with
    | some (x, r) => match b.of r with
      | some (y, r') => some ((x, y), r')
      | none => none
    | none => none
  | _, _ => none

structure Row where
  T : TypeId
  k : EK
  l : List k.ty
  own : Bool

structure Box where
  T : TypeId
  cells : List AV
  own : Bool

structure St where
  tmps : List AV
  boxes : List (Option Box)
  rows : List (Option Row)
  ys : List (List AV)
  pin : List AV
inductive RV where
  | a (v : AV)
  | box (id off : Nat) (T : TypeId) (own : Bool) (cells : List RV)
  | row (id : Nat) (r : Row)
  | view (id lo hi : Nat) (ex : Bool) (r : Row)
  | arrp (id : Nat) (r : Row)
  | elt (id ix sub : Nat) (r : Row)
  | fn (f : Nat) (caps : List RV)
  | agg (l : List RV)
  | tup (l : List RV)

def getK {α : Type} (d : α) : List α → Nat → α
  | [], _ => d
  | x :: _, 0 => x
  | _ :: l, n + 1 => getK d l n

mutual
def AV.closed : AV → Bool
  | .i .. | .b _ | .s _ | .nilp | .nilf | .nili | .nils | .mp _ | .pt _ => true
  | .agg l => AV.closedL l
  | .ifc _ v => v.closed
  | _ => false
def AV.closedL : List AV → Bool
  | [] => true
  | x :: l => x.closed && AV.closedL l
end
def selfA (id : Nat) (v : AV) : AV := match v with
  | .box i off => (match Nat.beq i id with | true => .any | false => .box i off)
  | v => v
def mapK {α β : Type} (f : α → β) : List α → List β
  | [] => []
  | x :: l => f x :: mapK f l
mutual
def resolveF (bs : List (Option Box)) (rs : List (Option Row)) : Nat → AV → Option RV
  | 0, _ => none
  | n + 1, v => match v with
    | .box id off => match getK none bs id with
      | some ⟨T, cells, own⟩ => (match resolveFL bs rs n (mapK (selfA id) cells) with | some l => some (.box id off T own l) | none => none)
      | none => none
    | .row id => match getK none rs id with | some r => some (.row id r) | none => none
    | .view id lo hi ex => match getK none rs id with | some r => some (.view id lo hi ex r) | none => none
    | .arrp id => match getK none rs id with | some r => some (.arrp id r) | none => none
    | .elt id ix sub => match getK none rs id with | some r => some (.elt id ix sub r) | none => none
    | .fn f caps => match resolveFL bs rs n caps with | some l => some (.fn f l) | none => none
    | .agg l => match resolveFL bs rs n l with | some l => some (.agg l) | none => none
    | .tup l => match resolveFL bs rs n l with | some l => some (.tup l) | none => none
    | .i k n => some (.a (.i k n))
    | .b x => some (.a (.b x))
    | .s x => some (.a (.s x))
    | .nilp => some (.a .nilp)
    | .mp b => some (.a (.mp b))
    | .pt b => some (.a (.pt b))
    | .nilf => some (.a .nilf)
    | .nili => some (.a .nili)
    | .nils => some (.a .nils)
    | .ifc T v => (match v.closed with | true => some (.a (.ifc T v)) | false => none)
    | .any => some (.a .any)
    | _ => none
def resolveFL (bs : List (Option Box)) (rs : List (Option Row)) : Nat → List AV → Option (List RV)
  | 0, _ => none
  | n + 1, l => match l with
    | [] => some []
    | x :: l => match resolveF bs rs n x with
      | some r => match resolveFL bs rs n l with
        | some rs => some (r :: rs)
        | none => none
      | none => none
end
def resolve (st : St) (v : AV) : Option RV := resolveF st.boxes st.rows 200 v
inductive SV where
  | a (v : AV)
  | box (id off : Nat) (bx : Box)
  | row (id : Nat) (r : Row)
  | view (id lo hi : Nat) (ex : Bool) (r : Row)
  | arrp (id : Nat) (r : Row)
  | elt (id ix sub : Nat) (r : Row)
def look (st : St) : AV → Option SV
  | .box id off => match getK none st.boxes id with | some bx => some (.box id off bx) | none => none
  | .row id => match getK none st.rows id with | some r => some (.row id r) | none => none
  | .view id lo hi ex => match getK none st.rows id with | some r => some (.view id lo hi ex r) | none => none
  | .arrp id => match getK none st.rows id with | some r => some (.arrp id r) | none => none
  | .elt id ix sub => match getK none st.rows id with | some r => some (.elt id ix sub r) | none => none
  | .i k n => some (.a (.i k n))
  | .b x => some (.a (.b x))
  | .s x => some (.a (.s x))
  | .nils => some (.a .nils)
  | .nilp => some (.a .nilp)
  | _ => none
inductive RT where
  | a (v : AV)
  | row (r : Row)
  | box (T : TypeId) (cells : List RT)
  | fn (f : Nat) (caps : List RT)
  | agg (l : List RT)
  | tup (l : List RT)
structure CR where
  pre : List Prop
  res : RT
  kill : List Nat := []
  setr : List (Nat × Row) := []

def appendList {α : Type} : List α → List α → List α
  | [], m => m
  | x :: l, m => x :: appendList l m

mutual
def RT.inst (fb fr : Nat) : RT → AV × List Box × List Row
  | .a v => (v, [], [])
  | .row r => (.row fr, [], [r])
  | .box T l => match RT.instL (fb + 1) fr l with | (vs, bs, rs) => (.box fb 0, ⟨T, vs, true⟩ :: bs, rs)
  | .fn f l => match RT.instL fb fr l with | (vs, bs, rs) => (.fn f vs, bs, rs)
  | .agg l => match RT.instL fb fr l with | (vs, bs, rs) => (.agg vs, bs, rs)
  | .tup l => match RT.instL fb fr l with | (vs, bs, rs) => (.tup vs, bs, rs)
def RT.instL (fb fr : Nat) : List RT → List AV × List Box × List Row
  | [] => ([], [], [])
  | x :: l => match RT.inst fb fr x with
    | (v, bs, rs) => match RT.instL (fb + bs.length) (fr + rs.length) l with
      | (vs, bs', rs') => (v :: vs, appendList bs bs', appendList rs rs')
end

abbrev Con := List RV → Option CR

inductive Eff where
  | none
  | box (bx : Box)
  | call (bs : List Box) (rs : List Row) (kill : List Nat) (setr : List (Nat × Row))
  | setBox (id : Nat) (bx : Box)
  | setRow (id : Nat) (r : Row)
  | app (id : Nat) (r : Row)
  | yield (args : List AV)

structure Res where
  pre : List Prop
  av : AV
  eff : Eff
inductive TK where
  | int (k : IntKind) | bool | str | ptr (e : TypeId) | slice (e : TypeId) | arr (n : Nat) (e : TypeId)
  | struct (fs : List (Nat × TypeId)) | func | iface | map (k v : TypeId) | tup
structure TD where
  k : TK
  size : Nat
  bytes : Nat
  zero : List AV
  ek : Option EK
  big : Option (EK × Nat) := none
  eqs : Bool := false

def TK.isAgg : TK → Bool
  | .arr .. | .struct .. => true
  | _ => false

def atomOf : Value → AV
  | .int k n => .i k n
  | .bool x => .b x
  | .string x => .s x
  | .pointer none => .nilp
  | .nilFunc => .nilf
  | .nilIface => .nili
  | .slice none 0 0 => .nils
  | _ => .any
def ofVal : Value → AV
  | .agg cs => .agg (mapK atomOf cs.toList)
  | .tuple cs => match cs.toList with | [] => .tup [] | _ => .any
  | v => atomOf v

def opnd (tmps : List AV) : Operand → AV
  | .tmp t => getK .any tmps t
  | .const v => ofVal v
  | .func f => .fn f []
  | .global _ => .any
def AV.one : AV → Bool
  | .agg _ | .tup _ | .opt .. | .any => false
  | _ => true
def oneL : List AV → Bool
  | [] => true
  | x :: l => x.one && oneL l
def cellsOf : AV → Option (List AV)
  | .agg l => if oneL l then some l else none
  | v => if v.one then some [v] else none

def dropK {α : Type} : Nat → List α → List α
  | 0, l => l
  | _ + 1, [] => []
  | n + 1, _ :: l => dropK n l
def takeK {α : Type} : Nat → List α → List α
  | 0, _ => []
  | _ + 1, [] => []
  | n + 1, x :: l => x :: takeK n l
def overK {α : Type} : List α → Nat → List α → List α
  | l, 0, [] => l
  | [], _, _ => []
  | x :: l, n + 1, vs => x :: overK l n vs
  | _ :: l, 0, v :: vs => v :: overK l 0 vs

def binI (op : BinOp) (k : IntKind) (x y : Int) : Option (List Prop × AV) :=
  match op with
  | .add => some ([], .i k (k.wrap (x + y)))
  | .sub => some ([], .i k (k.wrap (x - y)))
  | .mul => some ([], .i k (k.wrap (x * y)))
  | .quo => some ([y ≠ 0], .i k (k.wrap (x.tdiv y)))
  | .rem => some ([y ≠ 0], .i k (x.tmod y))
  | .and => some ([], .i k (bits .and k x y))
  | .or => some ([], .i k (bits .or k x y))
  | .xor => some ([], .i k (bits .xor k x y))
  | .andNot => some ([], .i k (bits .andNot k x y))
  | .eql => some ([], .b (x == y))
  | .neq => some ([], .b (x != y))
  | .lss => some ([], .b (decide (x < y)))
  | .leq => some ([], .b (decide (x ≤ y)))
  | .gtr => some ([], .b (decide (x > y)))
  | .geq => some ([], .b (decide (x ≥ y)))
  | .shl => some ([0 ≤ y], .i k (k.wrap (x * 2 ^ (min y.toNat k.bits))))
  | .shr => some ([0 ≤ y], .i k (x.fdiv (2 ^ (min y.toNat k.bits))))

def strEq (x y : ByteArray) : Bool := x.toList == y.toList
def binS (op : BinOp) (x y : ByteArray) : Option (List Prop × AV) :=
  match op with
  | .add => some ([x.size + y.size ≤ 9223372036854775807], .s (x ++ y))
  | .eql => some ([], .b (strEq x y))
  | .neq => some ([], .b (!(strEq x y)))
  | .lss => some ([], .b (Op.bytesLess x.toList y.toList))
  | .leq => some ([], .b (Op.bytesLess x.toList y.toList || (strEq x y)))
  | .gtr => some ([], .b (!(Op.bytesLess x.toList y.toList || (strEq x y))))
  | .geq => some ([], .b (!Op.bytesLess x.toList y.toList))
  | _ => none
def EK.eqb : (k : EK) → k.ty → k.ty → Bool
  | .int _, a, b => (a : Int) == b
  | .bool, a, b => (a : Bool) == b
  | .str, a, b => strEq a b
  | .byte, a, b => (a : Int) == b
  | .pair k k', a, b => k.eqb a.1 b.1 && k'.eqb a.2 b.2
def bytesL (s : ByteArray) : List Int := s.data.toList.map fun b => (b.toNat : Int)
def bytesOf (l : List Int) : ByteArray := l.foldl (fun r n => r.push (UInt8.ofNat n.toNat)) ByteArray.empty
def byteAt (s : ByteArray) (n : Nat) : Int := ((s.data.toList.getD n 0).toNat : Int)

def fillS (places : List (Nat × Nat)) (cells : List AV) : List (Nat × AV) → Option (List AV)
  | [] => some cells
  | (i, v) :: rest => match cellsOf v with
    | some vs => match getK (0, 0) places i with
      | (off, size) => if vs.length = size ∧ off + size ≤ cells.length ∧ i < places.length then fillS places (overK cells off vs) rest else none
    | none => none
def elems (k : EK) (A : Operand → AV) : Nat → List (Nat × Operand) → Option (List k.ty)
  | _, [] => some []
  | n, (i, x) :: rest => if i = n then match cellsOf (A x) with
      | some vs => match k.of vs with
        | some (e, []) => match elems k A (n + 1) rest with
          | some es => some (e :: es)
          | none => none
        | _ => none
      | none => none
    else none

def Row.cells (r : Row) (ix : Nat) : List AV := r.k.av (r.l.getD ix r.k.dflt)

def castL (k k' : EK) (l : List k'.ty) : Option (List k.ty) := if h : k' = k then some (h ▸ l) else none

section
variable (TT : TypeId → Option TD) (C : Nat → Option Con) (Y : List (List AV) → List AV → Option (Prop × Bool))

def sizesOf (TT : TypeId → Option TD) : List (Nat × TypeId) → Option (List (Nat × Nat))
  | [] => some []
  | (off, t) :: l => match TT t with
    | some d => match sizesOf TT l with | some r => some ((off, d.size) :: r) | none => none
    | none => none

def AV.plain : AV → Bool
  | .i .. | .b _ | .s _ => true
  | .agg l => plainAgg l
  | _ => false
where plainAgg : List AV → Bool
  | [] => true
  | .i .. :: l => plainAgg l
  | .b _ :: l => plainAgg l
  | .s _ :: l => plainAgg l
  | _ => false
def plainL : List AV → Bool
  | [] => true
  | x :: l => x.plain && plainL l
def listOf (A : Operand → AV) : List Operand → List AV
  | [] => []
  | x :: l => A x :: listOf A l

def allRes (rs : AV → Option RV) : List AV → Option (List RV)
  | [] => some []
  | x :: l => match rs x with
    | some r => match allRes rs l with | some m => some (r :: m) | none => none
    | none => none

def callC (rs : AV → Option RV) (fb fr : Nat) (f : Nat) (args : List AV) : Option Res :=
  match C f with
  | some con => match allRes rs args with
    | some rvs => match con rvs with
      | some ⟨pre, res, kill, setr⟩ => match res with
        | .a v => (match kill, setr with | [], [] => some ⟨pre, v, .none⟩ | _, _ => some ⟨pre, v, .call [] [] kill setr⟩)
        | res => match res.inst fb fr with | (v, bs, rows) => some ⟨pre, v, .call bs rows kill setr⟩
      | none => none
    | none => none
  | none => none

def trPick (A : Operand → AV) (c x y : Operand) : Option Res :=
  match x, y with
  | .const (.bool true), y => match A c, A y with
    | .b x, .opt g (.b z) => some ⟨[x = false → g = true], .b (x || z), .none⟩
    | .b x, .opt _ .any => some ⟨[x = false → False], .b true, .none⟩
    | .b x, .b z => some ⟨[], .b (x || z), .none⟩
    | _, _ => none
  | x, .const (.bool false) => match A c, A x with
    | .b x, .opt g (.b z) => some ⟨[x = true → g = true], .b (x && z), .none⟩
    | .b x, .opt _ .any => some ⟨[x = true → False], .b false, .none⟩
    | .b x, .b z => some ⟨[], .b (x && z), .none⟩
    | _, _ => none
  | _, _ => none

def bound (A : Operand → AV) : Option Operand → Option (Option Int)
  | none => some none
  | some y => match A y with | .i _ n => some (some n) | _ => none

def trSlice (A : Operand → AV) (T : TypeId) (x : Operand) (lo hi : Option Operand) : Option Res :=
  match A x, TT T with
  | .s x, some d => match d.k with
    | .str => match bound A lo, bound A hi with
      | some none, some none => some ⟨[], .s (x.extract 0 x.size), .none⟩
      | some (some l), some none => some ⟨[0 ≤ l ∧ l ≤ x.size], .s (x.extract l.toNat x.size), .none⟩
      | some none, some (some h) => some ⟨[0 ≤ h ∧ h ≤ x.size], .s (x.extract 0 h.toNat), .none⟩
      | some (some l), some (some h) => some ⟨[0 ≤ h ∧ h ≤ x.size, 0 ≤ l ∧ l ≤ h], .s (x.extract l.toNat h.toNat), .none⟩
      | _, _ => none
    | _ => none
  | _, _ => none
def cutL {α : Type} (lo hi : Nat) (l : List α) : List α := (l.drop lo).take (hi - lo)

def trSliceR (A : Operand → AV) (lk : AV → Option SV) (T : TypeId) (x : Operand) (lo hi mx : Option Operand) : Option Res :=
  match TT T with
  | some d => match d.k with
    | .slice e => match TT e with
      | some de => match lk (A x), mx with
        | some (.row id r), none => if de.size = r.k.size then (match bound A lo, bound A hi with
          | some none, some none => some ⟨[], .view id 0 r.l.length true, .none⟩
          | some (some l), some none => some ⟨[0 ≤ l ∧ l ≤ r.l.length], .view id l.toNat r.l.length true, .none⟩
          | some none, some (some h) => some ⟨[0 ≤ h ∧ h ≤ r.l.length], .view id 0 h.toNat true, .none⟩
          | some (some l), some (some h) => some ⟨[0 ≤ h ∧ h ≤ r.l.length, 0 ≤ l ∧ l ≤ h], .view id l.toNat h.toNat true, .none⟩
          | _, _ => none) else none
        | some (.row id r), some _ => if de.size = r.k.size then (match bound A lo, bound A hi, bound A mx with
          | some none, some (some h), some (some n) => some ⟨[0 ≤ n ∧ n ≤ r.l.length, 0 ≤ h ∧ h ≤ n], .view id 0 h.toNat false, .none⟩
          | some (some l), some (some h), some (some n) => some ⟨[0 ≤ n ∧ n ≤ r.l.length, 0 ≤ l ∧ l ≤ h ∧ h ≤ n], .view id l.toNat h.toNat false, .none⟩
          | _, _, _ => none) else none
        | some (.view id lo0 hi0 _ r), none => if de.size = r.k.size then (match bound A lo, bound A hi with
          | some (some l), some none => some ⟨[0 ≤ l ∧ l ≤ (hi0 - lo0 : Nat)], .view id (lo0 + l.toNat) hi0 false, .none⟩
          | _, _ => none) else none
        | _, _ => none
      | none => none
    | _ => none
  | none => none

def trLen (A : Operand → AV) (lk : AV → Option SV) (x : Operand) (t : TypeId) : Option Res :=
  match lk (A x), TT t with
  | some (.a (.s x)), some d => (match d.k with | .str => some ⟨[], .i .i64 x.size, .none⟩ | _ => none)
  | some (.row _ r), some d => (match d.k with | .slice _ => some ⟨[], .i .i64 r.l.length, .none⟩ | _ => none)
  | some (.view _ lo hi _ _), some d => (match d.k with | .slice _ => some ⟨[], .i .i64 (hi - lo : Nat), .none⟩ | _ => none)
  | some (.a .nils), some d => (match d.k with | .slice _ => some ⟨[], .i .i64 0, .none⟩ | _ => none)
  | _, _ => none
def rowlike : SV → Option Row
  | .row _ r => some r
  | .view _ lo hi _ r => some ⟨r.T, r.k, cutL lo hi r.l, false⟩
  | _ => none

def trAppend (A : Operand → AV) (lk : AV → Option SV) (fr : Nat) (x y : Operand) (t : TypeId) : Option Res :=
  match lk (A y), TT t with
  | some sv, some d => match rowlike sv, d.k with
    | some r', .slice e => match TT e with
      | some de => match lk (A x) with
        | some (.row id r) => if r.own = true then
            match castL r.k r'.k r'.l with
            | some m => if de.size = r.k.size ∧ e = r.T ∧ r.k ≠ .byte then some ⟨[r.l.length + r'.l.length ≤ 4000000000, (r.l.length + r'.l.length) * de.bytes ≤ 140737488355328], .row id, .app id ⟨r.T, r.k, r.l ++ m, true⟩⟩ else none
            | none => none
          else none
        | some (.a .nils) => if de.size = r'.k.size ∧ r'.k ≠ .byte then some ⟨[r'.l.length ≤ 4000000000, r'.l.length * de.bytes ≤ 140737488355328], .row fr, .call [] [⟨e, r'.k, r'.l, true⟩] [] []⟩ else none
        | _ => none
      | none => none
    | _, _ => none
  | _, _ => none
def trAppendS (A : Operand → AV) (lk : AV → Option SV) (x y : Operand) (t t' : TypeId) : Option Res :=
  match A y, TT t, TT t' with
  | .s s, some d, some d' => (match d.k, d'.k with
    | .slice e, .str => (match TT e with
      | some de => (match lk (A x) with
        | some (.row id ⟨T0, .int .u8, l, true⟩) => if de.ek = some (.int .u8) ∧ de.bytes = 1 ∧ e = T0 then some ⟨[l.length + s.size ≤ 4000000000], .row id, .app id ⟨T0, .int .u8, l ++ bytesL s, true⟩⟩ else none
        | _ => none)
      | none => none)
    | _, _ => none)
  | _, _, _ => none
def trClear (A : Operand → AV) (lk : AV → Option SV) (x : Operand) (t : TypeId) : Option Res :=
  match lk (A x), TT t with
  | some (.view id lo hi _ r), some d => match d.k with
    | .slice e => match TT e with
      | some de => match de.ek with
        | some k => if r.own = true ∧ de.size = r.k.size ∧ k = r.k then some ⟨[lo ≤ hi ∧ hi ≤ r.l.length], .tup [], .setRow id ⟨r.T, r.k, r.l.take lo ++ List.replicate (hi - lo) r.k.dflt ++ r.l.drop hi, true⟩⟩ else none
        | none => none
      | none => none
    | _ => none
  | _, _ => none

def trBuiltin (A : Operand → AV) (lk : AV → Option SV) (fr : Nat) (b : Builtin) (args : List Operand) (ts : List TypeId) : Option Res :=
  match args, ts with
  | [x], [t] => (match b with | .len => trLen TT A lk x t | .clear => trClear TT A lk x t | _ => none)
  | [x, y], ts => (match b with
    | .min => (match A x, A y with
      | .i k a, .i k' b => if k = k' then some ⟨[], .i k (if b < a then b else a), .none⟩ else none
      | _, _ => none)
    | .max => (match A x, A y with
      | .i k a, .i k' b => if k = k' then some ⟨[], .i k (if b > a then b else a), .none⟩ else none
      | _, _ => none)
    | .append => (match ts with
      | [t, t'] => if t = t' then trAppend TT A lk fr x y t else trAppendS TT A lk x y t t'
      | _ => none)
    | _ => none)
  | _, _ => none
def tr (A : Operand → AV) (lk : AV → Option SV) (rs : AV → Option RV) (ys : List (List AV)) (fb fr : Nat) (op : Op) : Option Res :=
  match op with
  | .move x | .assign x => some ⟨[], A x, .none⟩
  | .pick c x y => trPick A c x y
  | .alloc T => match TT T with
    | some d => (match d.big with
      | none => some ⟨[], .box fb 0, .box ⟨T, d.zero, true⟩⟩
      | some (k, n) => some ⟨[], .arrp fr, .call [] [⟨T, k, List.replicate n k.dflt, true⟩] [] []⟩)
    | none => none
  | .box T x => match TT T, cellsOf (A x) with
    | some d, some l => if l.length = d.size then some ⟨[], .box fb 0, .box ⟨T, l, true⟩⟩ else none
    | _, _ => none
  | .build T parts => match TT T with
    | some d => match d.big with
      | some _ => none
      | none => match d.k with
      | .struct fs => match sizesOf TT fs with
        | some places => match fillS places d.zero (mapK (fun p => (p.1, A p.2)) parts.toList) with
          | some cells => some ⟨[], .agg cells, .none⟩
          | none => none
        | none => none
      | .arr n e => match TT e with
        | some de => match fillS (mapK (fun i => (i * de.size, de.size)) (List.range n)) d.zero (mapK (fun p => (p.1, A p.2)) parts.toList) with
          | some cells => some ⟨[], .agg cells, .none⟩
          | none => none
        | none => none
      | _ => none
    | none => none
  | .buildSlice T len parts => match TT T with
    | some d => match d.k with
      | .slice e => match TT e with
        | some de => match de.ek with
          | some k => match elems k A 0 parts.toList with
            | some l => if l.length = len ∧ de.size = k.size ∧ len * de.size ≤ 1000000 then some ⟨[], .row fr, .call [] [⟨e, k, l, true⟩] [] []⟩ else none
            | none => none
          | none => none
        | none => none
      | _ => none
    | none => none
  | .load T x => match lk (A x), TT T with
    | some (.box _ off bx), some d =>
      if d.k.isAgg then (if off + d.size ≤ bx.cells.length then some ⟨[], .agg (takeK d.size (dropK off bx.cells)), .none⟩ else none)
      else (if off < bx.cells.length then some ⟨[], getK .any bx.cells off, .none⟩ else none)
    | some (.elt _ ix sub r), some d =>
      if d.k.isAgg then (if sub + d.size ≤ r.k.size then some ⟨[], .agg (takeK d.size (dropK sub (r.cells ix))), .none⟩ else none)
      else (if sub < r.k.size then some ⟨[], getK .any (r.cells ix) sub, .none⟩ else none)
    | _, _ => none
  | .store T x y => match lk (A x), TT T, cellsOf (A y) with
    | some (.box id off bx), some d, some vs =>
      if bx.own = true ∧ vs.length = d.size ∧ off + d.size ≤ bx.cells.length then some ⟨[], .tup [], .setBox id { bx with cells := overK bx.cells off vs }⟩ else none
    | some (.elt id ix sub r), some d, some vs =>
      if r.own = true ∧ vs.length = d.size ∧ d.size = r.k.size ∧ sub = 0 then
        match r.k.of vs with
        | some (e, []) => some ⟨[], .tup [], .setRow id ⟨r.T, r.k, r.l.set ix e, true⟩⟩
        | _ => none
      else none
    | _, _, _ => none
  | .nilCheck x => match A x with
    | .box id off => some ⟨[], .box id off, .none⟩
    | .elt id ix sub => some ⟨[], .elt id ix sub, .none⟩
    | .fn f caps => some ⟨[], .fn f caps, .none⟩
    | _ => none
  | .binOp o T x y _ => match A x, A y with
    | .i k a, .i k' b => match o with
      | .shl | .shr => (match binI o k a b with | some (p, v) => some ⟨p, v, .none⟩ | none => none)
      | _ => if k = k' then (match binI o k a b with | some (p, v) => some ⟨p, v, .none⟩ | none => none) else none
    | .s a, .s b => match binS o a b with | some (p, v) => some ⟨p, v, .none⟩ | none => none
    | .b a, .b b => match TT T with
      | some d => match d.k, o with
        | .bool, .eql => some ⟨[], .b (a == b), .none⟩
        | .bool, .neq => some ⟨[], .b (!(a == b)), .none⟩
        | _, _ => none
      | none => none
    | .agg l, .agg m => match TT T with
      | some d => match d.eqs, d.ek with
        | true, some k => match k.of l, k.of m with
          | some (x, []), some (y, []) => (match o with
            | .eql => some ⟨[], .b (k.eqb x y), .none⟩
            | .neq => some ⟨[], .b (!(k.eqb x y)), .none⟩
            | _ => none)
          | _, _ => none
        | _, _ => none
      | none => none
    | .ifc _ _, .nili => match TT T with
      | some d => (match d.k, o with
        | .iface, .eql => some ⟨[], .b false, .none⟩
        | .iface, .neq => some ⟨[], .b true, .none⟩
        | _, _ => none)
      | none => none
    | .nili, .nili => match TT T, y with
      | some d, .const _ => (match d.k, o with
        | .iface, .eql => some ⟨[], .b true, .none⟩
        | .iface, .neq => some ⟨[], .b false, .none⟩
        | _, _ => none)
      | _, _ => none
    | _, _ => none
  | .unOp o _ x => match o, A x with
    | .not, .b x => some ⟨[], .b (!x), .none⟩
    | .neg, .i k n => some ⟨[], .i k (k.wrap (0 - n)), .none⟩
    | _, _ => none
  | .convert src dst x => match A x, TT src, TT dst with
    | .i _ n, some ds, some dd => (match ds.k, dd.k with | .int _, .int k => some ⟨[], .i k (k.wrap n), .none⟩ | _, _ => none)
    | .s x, some ds, some dd => (match ds.k, dd.k with
      | .str, .str => some ⟨[], .s x, .none⟩
      | .str, .slice e => (match TT e with
        | some de => (match de.k with
          | .int .u8 => some ⟨[x.size ≤ 4000000000], .row fr, .call [] [⟨e, .byte, bytesL x, true⟩] [] []⟩
          | _ => none)
        | none => none)
      | _, _ => none)
    | v, some ds, some dd => (match ds.k, dd.k with
      | .slice e, .str => (match TT e with
        | some de => (match de.k with
          | .int .u8 => (match lk v with
            | some (.row _ r) => (match castL .byte r.k r.l, castL (.int .u8) r.k r.l with
              | some l, _ => some ⟨[], .s (bytesOf l), .none⟩
              | none, some l => some ⟨[], .s (bytesOf l), .none⟩
              | none, none => none)
            | some (.a .nils) => some ⟨[], .s ByteArray.empty, .none⟩
            | _ => none)
          | _ => none)
        | none => none)
      | .slice e, .slice _ => (match Nat.beq src dst, TT e with
        | true, some de => (match de.k, lk v with
          | .int .u8, some (.row id ⟨T0, .int .u8, l, true⟩) => (match l with
            | [] => none
            | y :: m => some ⟨[], .row id, .setRow id ⟨T0, .byte, y :: m, true⟩⟩)
          | _, _ => none)
        | _, _ => none)
      | _, _ => none)
    | _, _, _ => none
  | .makeInterface T x => match TT T with
    | some d => (match d.k, (A x).closed with
      | .struct _, true => some ⟨[], .ifc T (A x), .none⟩
      | .int _, true => some ⟨[], .ifc T (A x), .none⟩
      | .ptr _, false => (match A x with | .box id off => some ⟨[], .ifc T (.box id off), .none⟩ | _ => none)
      | _, _ => none)
    | none => none
  | .makeFunc fn first caps => match fn, first.toList with
    | .func f, [] => some ⟨[], .fn f (listOf A caps.toList), .none⟩
    | _, _ => none
  | .slice T x lo hi mx => (match A x with
    | .s _ => (match mx with | none => trSlice TT A T x lo hi | some _ => none)
    | _ => trSliceR TT A lk T x lo hi mx)
  | .fieldAddr T x f => match A x, TT T with
    | .box id off, some d => (match d.k with
      | .struct fs => if f < fs.length then (match getK (0, 0) fs f with | (o, ft) => match TT ft with | some fd => if fd.size = 0 then none else some ⟨[], .box id (off + o), .none⟩ | none => none) else none
      | _ => none)
    | .elt id ix sub, some d => (match d.k with
      | .struct fs => if f < fs.length then (match getK (0, 0) fs f with | (o, ft) => match TT ft with | some fd => if fd.size = 0 then none else some ⟨[], .elt id ix (sub + o), .none⟩ | none => none) else none
      | _ => none)
    | _, _ => none
  | .field T x f => match A x, TT T with
    | .agg l, some d => (match d.k with
      | .struct fs => if f < fs.length then (match getK (0, 0) fs f with
        | (o, t) => match TT t with
          | some dt => if dt.k.isAgg then (if o + dt.size ≤ l.length then some ⟨[], .agg (takeK dt.size (dropK o l)), .none⟩ else none)
              else (if o < l.length then some ⟨[], getK .any l o, .none⟩ else none)
          | none => none) else none
      | _ => none)
    | _, _ => none
  | .indexAddr T x ix => match lk (A x), A ix, TT T with
    | some (.row id r), .i _ n, some d => (match d.k with
      | .slice e => match TT e with
        | some de => if de.size = r.k.size ∧ de.size ≠ 0 then some ⟨[0 ≤ n ∧ n < r.l.length], .elt id n.toNat 0, .none⟩ else none
        | none => none
      | _ => none)
    | some (.view id lo hi _ r), .i _ n, some d => (match d.k with
      | .slice e => match TT e with
        | some de => if de.size = r.k.size ∧ de.size ≠ 0 then some ⟨[0 ≤ n ∧ n < (hi - lo : Nat)], .elt id (lo + n.toNat) 0, .none⟩ else none
        | none => none
      | _ => none)
    | some (.arrp id r), .i _ n, some d => (match d.k with
      | .arr m e => match TT e with
        | some de => if de.size = r.k.size ∧ de.size ≠ 0 then some ⟨[0 ≤ n ∧ n < r.l.length ∧ r.l.length = m], .elt id n.toNat 0, .none⟩ else none
        | none => none
      | _ => none)
    | some (.box id off bx), .i _ n, some d => (match d.k with
      | .arr m e => match TT e with
        | some de => if de.size ≠ 0 ∧ 0 ≤ n ∧ n < m then some ⟨[], .box id (off + n.toNat * de.size), .none⟩ else none
        | none => none
      | _ => none)
    | _, _, _ => none
  | .index T x ix => match A x, A ix, TT T with
    | .s x, .i _ n, some d => (match d.k with
      | .str => some ⟨[0 ≤ n ∧ n < x.size], .i .u8 (byteAt x n.toNat), .none⟩
      | _ => none)
    | .agg l, .i _ n, some d => (match d.k with
      | .arr m e => match TT e with
        | some de => if de.k.isAgg then none else if de.size = 1 ∧ 0 ≤ n ∧ n < m ∧ n.toNat < l.length then some ⟨[], getK .any l n.toNat, .none⟩ else none
        | none => none
      | _ => none)
    | _, _, _ => none
  | .extract t ix => match A t with
    | .tup l => if ix < l.length then some ⟨[], getK .any l ix, .none⟩ else none
    | _ => none
  | .call cl => match cl.callee with
    | .value f => (match A f with
      | .fn g caps => callC C rs fb fr g (appendList (listOf A cl.args.toList) caps)
      | .yv => (match plainL (listOf A cl.args.toList) with
        | true => (match Y ys (listOf A cl.args.toList) with
          | some (p, b) => some ⟨[p], .b b, .yield (listOf A cl.args.toList)⟩
          | none => none)
        | false => none)
      | _ => none)
    | .builtin b => trBuiltin TT A lk fr b cl.args.toList cl.argTypes.toList
    | .invoke _ _ => none
  | _ => none

end

def setK {α : Type} {β : Sort 1} (l : List α) (n : Nat) (v : α) (k : List α → β) : β :=
  match l, n with
  | [], _ => k []
  | _ :: l, 0 => k (v :: l)
  | x :: l, n + 1 => setK l n v (fun l' => k (x :: l'))

def putAt {α : Type} (d : α) : List α → Nat → α → List α
  | [], 0, v => [v]
  | [], n + 1, v => d :: putAt d [] n v
  | _ :: l, 0, v => v :: l
  | x :: l, n + 1, v => x :: putAt d l n v
def killOne : List (Option Row) → Nat → List (Option Row)
  | [], _ => []
  | _ :: l, 0 => none :: l
  | x :: l, n + 1 => x :: killOne l n
def killAll : List (Option Row) → List Nat → List (Option Row)
  | l, [] => l
  | l, n :: ns => killAll (killOne l n) ns

mutual
def AV.hits (ids : List Nat) : AV → Bool
  | .row id => ids.contains id
  | .view id _ _ _ => ids.contains id
  | .arrp id => ids.contains id
  | .elt id _ _ => ids.contains id
  | .fn _ l => AV.hitsL ids l
  | .agg l => AV.hitsL ids l
  | .tup l => AV.hitsL ids l
  | .opt _ v => v.hits ids
  | .ifc _ v => v.hits ids
  | _ => false
def AV.hitsL (ids : List Nat) : List AV → Bool
  | [] => false
  | x :: l => x.hits ids || AV.hitsL ids l
end
def sweep (ids : List Nat) (v : AV) : AV := if v.hits ids then .any else v
def sweepBox (ids : List Nat) : Option Box → Option Box
  | some bx => some ⟨bx.T, mapK (sweep ids) bx.cells, bx.own⟩
  | none => none

def setAllR : List (Option Row) → List (Nat × Row) → List (Option Row)
  | l, [] => l
  | l, (n, r) :: ns => setAllR (putAt none l n (some r)) ns

def overL {α : Type} (l : List (Option α)) (fr : Nat) : List α → List (Option α)
  | [] => l
  | r :: rs => overL (putAt none l fr (some r)) (fr + 1) rs

def Eff.apply (fb fr : Nat) (st : St) (eff : Eff) : St := match st with
  | ⟨ts, bx, rw, ys, pn⟩ => match eff with
    | .none => ⟨ts, bx, rw, ys, pn⟩
    | .box b => ⟨ts, putAt .none bx fb (some b), rw, ys, pn⟩
    | .call bs rs [] setr => ⟨ts, overL bx fb bs, overL (setAllR rw setr) fr rs, ys, pn⟩
    | .call bs rs kill setr => ⟨mapK (sweep kill) ts, overL (mapK (sweepBox kill) bx) fb bs, overL (setAllR (killAll rw kill) setr) fr rs, ys, mapK (sweep kill) pn⟩
    | .setBox id b => ⟨ts, putAt .none bx id (some b), rw, ys, pn⟩
    | .setRow id r => ⟨ts, bx, putAt .none rw id (some r), ys, pn⟩
    | .app id r => ⟨mapK (sweep [id]) ts, mapK (sweepBox [id]) bx, putAt .none rw id (some r), ys, mapK (sweep [id]) pn⟩
    | .yield args => ⟨ts, bx, rw, ys ++ [args], pn⟩

def conjP (l : List Prop) (K : Prop) : Prop := List.rec K (fun p _ ih => p ∧ ih) l

def unopt (g : Bool) (v : AV) : List Prop × AV := match v with
  | .opt g' v => ([g = true → g' = true], v)
  | v => ([], v)
def optOf (ts : List AV) (g : Bool) : List Operand → List Prop
  | [] => []
  | x :: l => appendList (unopt g (opnd ts x)).1 (optOf ts g l)
def needs (op : Op) (x : Operand) : Bool := match op with
  | .pick (.tmp c) _ _ => (match x with | .tmp t => Nat.beq t c | _ => true)
  | _ => true
def unoptN (n g : Bool) (v : AV) : List Prop × AV := match n with
  | true => unopt g v
  | false => ([], v)
def optOfN (op : Op) (ts : List AV) (g : Bool) : List Operand → List Prop
  | [] => []
  | x :: l => appendList (unoptN (needs op x) g (opnd ts x)).1 (optOfN op ts g l)
def dead : AV → Bool
  | .opt g v => (match v with | .any => !g | _ => false)
  | _ => false
def deadL (op : Op) (ts : List AV) : List Operand → Bool
  | [] => false
  | x :: l => match needs op x with
    | true => (match dead (opnd ts x) with | true => true | false => deadL op ts l)
    | false => deadL op ts l
def impl (g : Bool) : List Prop → List Prop
  | [] => []
  | p :: ps => (g = true → p) :: impl g ps
def listK {α : Type} (l : List α) (k : List α → Prop) : Prop := match l with
  | [] => k []
  | x :: l => listK l (fun l' => k (x :: l'))
def cellK (v : AV) (k : AV → Prop) : Prop := match v with
  | .i a n => k (.i a n)
  | .b x => k (.b x)
  | .s x => k (.s x)
  | .nilp => k .nilp
  | .mp b => k (.mp b)
  | .pt b => k (.pt b)
  | .nilf => k .nilf
  | .nili => k .nili
  | .nils => k .nils
  | .box a b => k (.box a b)
  | .row a => k (.row a)
  | .view a b c d => k (.view a b c d)
  | .arrp a => k (.arrp a)
  | .yv => k .yv
  | .elt a b c => k (.elt a b c)
  | .fn f l => listK l (fun l => k (.fn f l))
  | .agg l => listK l (fun l => k (.agg l))
  | .tup l => listK l (fun l => k (.tup l))
  | .opt g v => k (.opt g v)
  | .ifc T v => k (.ifc T v)
  | .any => k .any
def cellL (l : List AV) (k : List AV → Prop) : Prop := match l with
  | [] => k []
  | x :: l => cellK x fun x => cellL l (fun l' => k (x :: l'))
def avK (v : AV) (k : AV → Prop) : Prop := match v with
  | .i a n => k (.i a n)
  | .b x => k (.b x)
  | .s x => k (.s x)
  | .nilp => k .nilp
  | .mp b => k (.mp b)
  | .pt b => k (.pt b)
  | .nilf => k .nilf
  | .nili => k .nili
  | .nils => k .nils
  | .box a b => k (.box a b)
  | .row a => k (.row a)
  | .view a b c d => k (.view a b c d)
  | .arrp a => k (.arrp a)
  | .yv => k .yv
  | .elt a b c => k (.elt a b c)
  | .fn f l => cellL l (fun l => k (.fn f l))
  | .agg l => cellL l (fun l => k (.agg l))
  | .tup l => cellL l (fun l => k (.tup l))
  | .opt g v => k (.opt g v)
  | .ifc T v => k (.ifc T v)
  | .any => k .any
def avL (l : List AV) (k : List AV → Prop) : Prop := match l with
  | [] => k []
  | x :: l => avK x fun x => avL l (fun l' => k (x :: l'))
def effK (eff : Eff) (k : Eff → Prop) : Prop := match eff with
  | .box ⟨T, cells, own⟩ => avL cells fun cells => k (.box ⟨T, cells, own⟩)
  | .setBox id ⟨T, cells, own⟩ => avL cells fun cells => k (.setBox id ⟨T, cells, own⟩)
  | .yield args => avL args fun args => k (.yield args)
  | e => k e
def stK (st : St) (k : St → Prop) : Prop := match st with
  | ⟨ts, bs, rs, ys, pn⟩ => listK ts fun ts => listK bs fun bs => listK rs fun rs => k ⟨ts, bs, rs, ys, pn⟩
def boolK (b : Bool) (k : Bool → Prop) : Prop := match b with
  | true => k true
  | false => k false
def boxK (b : Option Box) (k : Option Box → Prop) : Prop := match b with
  | none => k none
  | some ⟨T, cells, own⟩ => avL cells fun cells => boolK own fun own => k (some ⟨T, cells, own⟩)
def rowK (b : Option Row) (k : Option Row → Prop) : Prop := match b with
  | none => k none
  | some ⟨T, e, l, own⟩ => boolK own fun own => k (some ⟨T, e, l, own⟩)
def boxL : List (Option Box) → (List (Option Box) → Prop) → Prop
  | [], k => k []
  | x :: l, k => boxK x fun x => boxL l fun l => k (x :: l)
def rowL : List (Option Row) → (List (Option Row) → Prop) → Prop
  | [], k => k []
  | x :: l, k => rowK x fun x => rowL l fun l => k (x :: l)
def stF (st : St) (k : St → Prop) : Prop := match st with
  | ⟨ts, bs, rs, ys, pn⟩ => avL ts fun ts => boxL bs fun bs => rowL rs fun rs => listK ys fun ys => avL pn fun pn => k ⟨ts, bs, rs, ys, pn⟩

section
variable (TT : TypeId → Option TD) (C : Nat → Option Con) (Y : List (List AV) → List AV → Option (Prop × Bool))

def guardOf (ops : Array Oper) (ts : List AV) (j : Nat) (want : Bool) : Option Bool :=
  match ops.toList[j]? with
  | some o => match o.dst with
    | some t => match getK .any ts t with
      | .b x => (match want with | true => some x | false => some (!x))
      | .opt g (.b x) => (match want with | true => some (g && x) | false => some (g && !x))
      | _ => none
    | none => none
  | none => none

def Eff.adds : Eff → Bool
  | .none => true
  | .box _ => true
  | .call [] rs [] [] => decide (rs.length ≤ 4)
  | _ => false

def isNone : Eff → Bool
  | .none => true
  | _ => false
def vcOp (add : Bool) (fb fr : Nat) (ops : Array Oper) (o : Oper) (st : St) (K : St → Prop) : Prop :=
  match st with
  | ⟨ts, bs, rs, ys, pn⟩ => match o.guard with
    | none => match tr TT C Y (opnd ts) (look ⟨ts, bs, rs, ys, pn⟩) (resolve ⟨ts, bs, rs, ys, pn⟩) ys fb fr o.op with
      | some ⟨pre, av, eff⟩ => (match !add || eff.adds with
        | true => conjP pre (avK av fun av => effK eff fun eff => stK (eff.apply fb fr ⟨ts, bs, rs, ys, pn⟩) fun st' => match o.dst with
          | some d => (match st' with | ⟨ts', bs', rs', ys', pn'⟩ => setK ts' d av fun ts' => K ⟨ts', bs', rs', ys', pn'⟩)
          | none => K st')
        | false => False)
      | none => False
    | some (j, want) => match guardOf ops ts j want with
      | some g => match deadL o.op ts o.op.operands.toList with
        | true => (g = true → False) ∧ (match o.dst with
            | some d => setK ts d (.opt false .any) fun ts' => K ⟨ts', bs, rs, ys, pn⟩
            | none => K ⟨ts, bs, rs, ys, pn⟩)
        | false => match tr TT C Y (fun x => (unoptN (needs o.op x) g (opnd ts x)).2) (look ⟨ts, bs, rs, ys, pn⟩) (resolve ⟨ts, bs, rs, ys, pn⟩) ys fb fr o.op with
          | some ⟨pre, av, eff⟩ => (match isNone eff with
            | true => conjP (optOfN o.op ts g o.op.operands.toList) (conjP (impl g pre) (avK av fun av => match o.dst with
              | some d => setK ts d (.opt g av) fun ts' => K ⟨ts', bs, rs, ys, pn⟩
              | none => K ⟨ts, bs, rs, ys, pn⟩))
            | false => (match add && !eff.adds with
              | true => False
              | false => (g = true → conjP (optOfN o.op ts true o.op.operands.toList) (conjP pre (avK av fun av => effK eff fun eff => stK (eff.apply fb fr ⟨ts, bs, rs, ys, pn⟩) fun st' => match o.dst with
                  | some d => (match st' with | ⟨ts', bs', rs', ys', pn'⟩ => setK ts' d (.opt true av) fun ts' => K ⟨ts', bs', rs', ys', pn'⟩)
                  | none => K st'))) ∧
                (g = false → match o.dst with
                  | some d => setK ts d (.opt false .any) fun ts' => K ⟨ts', bs, rs, ys, pn⟩
                  | none => K ⟨ts, bs, rs, ys, pn⟩)))
          | none => False
      | none => False
def lenK {α : Type} : List α → Nat → (Nat → Prop) → Prop
  | [], n, k => k n
  | _ :: l, n, k => lenK l (n + 1) k
def isInl (ts : List AV) (o : Oper) : Bool :=
  match o.op with
  | .call ⟨.value x, _, _⟩ => (match (unopt true (opnd ts x)).2 with
    | .fn f _ => (match C f with | some _ => false | none => true)
    | .yv => true
    | _ => false)
  | .lookup _ x _ _ => (match (unopt true (opnd ts x)).2 with | .mp _ => true | _ => false)
  | .range _ x => (match (unopt true (opnd ts x)).2 with | .mp _ => true | _ => false)
  | .next x _ => (match (unopt true (opnd ts x)).2 with | .pt _ => true | _ => false)
  | .entry x => (match (unopt true (opnd ts x)).2 with | .pt _ => true | _ => false)
  | _ => false
inductive Lf (p : Prop) : Prop
  | mk : p → Lf p
theorem Lf.un {p : Prop} (h : Lf p) : p := match h with | .mk h => h
def vcOps (LO : Array Oper → List Oper → St → (St → Prop) → Prop) (ops : Array Oper) (l : List Oper) : St → (St → Prop) → Prop :=
  List.rec (motive := fun _ => St → (St → Prop) → Prop) (fun st K => K st)
    (fun o rest ih st K => match st with
      | ⟨ts, bs, rs, ys, pn⟩ => match isInl C ts o with
        | true => Lf (LO ops (o :: rest) ⟨ts, bs, rs, ys, pn⟩ K)
        | false => lenK bs 0 fun nb => lenK rs 0 fun nr => vcOp TT C Y false nb nr ops o ⟨ts, bs, rs, ys, pn⟩ fun st' => ih st' K) l
def Op.late : Op → Bool
  | .store .. | .mapUpdate .. | .entryStore .. => true
  | .call { callee := .builtin b, .. } => match b with | .append | .copy | .clear | .delete => true | _ => false
  | _ => false
def lateOp (C : Nat → Option Con) (op : Op) : Bool := match Op.late op with
  | true => true
  | false => match op with
    | .call { callee := .value (.func f), .. } => (match C (f + 1000000) with | some _ => true | none => false)
    | _ => false
def maskOf (acc : List Nat) : List Edge → Nat
  | [] => 0
  | e :: es => (if Region.binds .any e then 2 ^ e.on ||| acc.getD e.on 0 else 0) ||| maskOf acc es
def masks (acc : List Nat) : List Oper → List Nat
  | [] => acc
  | o :: l => masks (acc ++ [maskOf acc o.after.toList]) l
def revA {α : Type} : List α → List α → List α
  | [], acc => acc
  | x :: l, acc => revA l (x :: acc)
def earlyE (acc : List Bool) (n : Nat) : List Edge → Bool
  | [] => true
  | e :: es => match Region.binds .any e with
    | true => (match getK false acc (n - 1 - e.on) with | true => earlyE acc n es | false => false)
    | false => earlyE acc n es
def earlyT (C : Nat → Option Con) : List Oper → Nat → List Bool → List Bool
  | [], _, acc => revA acc []
  | o :: l, n, acc => match lateOp C o.op with
    | true => earlyT C l (n + 1) (false :: acc)
    | false => (match earlyE acc n o.after.toList with
      | true => earlyT C l (n + 1) (true :: acc)
      | false => earlyT C l (n + 1) (false :: acc))
def elOf (C : Nat → Option Con) (l : List Oper) : List Bool := earlyT C l 0 []
def boolLK (l : List Bool) : (List Bool → Prop) → Prop := List.rec (motive := fun _ => (List Bool → Prop) → Prop) (fun k => k []) (fun b _ ih k => match b with | true => ih fun l => k (true :: l) | false => ih fun l => k (false :: l)) l
def allT : List Bool → Bool
  | [] => true
  | true :: l => allT l
  | false :: _ => false
def natF {α : Type} (n : Nat) (k : Nat → α) : α := match n with
  | 0 => k 0
  | m + 1 => k (m + 1)
def snocF {α : Type} (acc : List Nat) (m : Nat) (k : List Nat → α) : α := match acc with
  | [] => k [m]
  | x :: l => snocF l m fun l' => k (x :: l')
def masksT : List Oper → List Nat → List Nat
  | [], acc => acc
  | o :: l, acc => natF (maskOf acc o.after.toList) fun m => snocF acc m fun acc' => masksT l acc'

def pureOp : Op → Bool
  | .move _ | .assign _ | .load .. | .extract .. | .makeFunc .. | .unOp .. | .field .. | .fieldAddr .. => true
  | _ => false
def floatB (bf : List Nat) (el : List Bool) (i : Nat) : Bool :=
  getK false el i && (List.range bf.length).any fun j => !getK false el j && !(getK 0 bf j).testBit i
def drawOk (C : Nat → Option Con) (ops : Array Oper) : Bool :=
  let l := ops.toList
  let bf := masks [] l
  let el := elOf C l
  (List.range l.length).all fun j =>
    match l[j]? with
    | none => false
    | some oj =>
      (oj.after.toList.all fun e => !Region.binds .any e || decide (e.on < j)) &&
      (if getK false el j then
        ((List.range l.length).all fun i => !getK false el i || (match l[i]? with
          | none => false
          | some oi => match oi.dst with
            | none => true
            | some d => i == j || (oj.dst != some d && (!(Oper.looksAt ops oj).contains d || (decide (i < j) && (getK 0 bf j).testBit i) || (decide (j < i) && (getK 0 bf i).testBit j))))) &&
          (!floatB bf el j || (oj.guard.isNone && pureOp oj.op && oj.dst.isSome && ((List.range l.length).all fun i => !getK false el i || (match l[i]? with
            | none => false
            | some oi => match oi.dst with
              | none => true
              | some d => !(Oper.looksAt ops oj).contains d || (i != j && (getK 0 bf j).testBit i)))))
      else (List.range l.length).all fun i => i == j || (getK 0 bf j).testBit i || (if getK false el i then (match l[i]? with
          | none => false
          | some oi => match oi.dst with
            | none => true
            | some d => oj.dst != some d && !(Oper.looksAt ops oj).contains d)
        else decide (j < i)))

def vcPre (ops : Array Oper) (nb nr : Nat) (n : Nat) (l : List Oper) : List Bool → St → (St → Prop) → Prop :=
  List.rec (motive := fun _ => Nat → List Bool → St → (St → Prop) → Prop) (fun _ _ st K => K st)
    (fun o _ ih n el st K => match el with
      | [] => False
      | false :: el => ih (n + 1) el st K
      | true :: el => vcOp TT C Y true (nb + n) (nr + 4 * n) ops o st fun st' => ih (n + 1) el st' K) l n
def smP (d : AV) (x : Option Res) : Prop := match x with
  | some ⟨[], v, .none⟩ => (match d with | .any => True | d => v = d)
  | _ => False
inductive Sm (d : AV) (x : Option Res) : Prop
  | mk : smP d x → Sm d x
def flt (st : St) (o : Oper) : Prop := match st with
  | ⟨ts, bs, rs, ys, pn⟩ => match o.dst with
    | some d => lenK bs 0 fun nb => lenK rs 0 fun nr => Sm (getK .any ts d) (tr TT C Y (opnd ts) (look ⟨ts, bs, rs, ys, pn⟩) (resolve ⟨ts, bs, rs, ys, pn⟩) ys nb nr o.op)
    | none => False
def fltL (fl : List Oper) (st : St) (K : Prop) : Prop := List.rec K (fun o _ ih => flt TT C Y st o ∧ ih) fl
def fltsOf (bf : List Nat) (el : List Bool) (l : List Oper) (n : Nat) : List Oper := match l with
  | [] => []
  | o :: l => match floatB bf el n with
    | true => o :: fltsOf bf el l (n + 1)
    | false => fltsOf bf el l (n + 1)
def fltsK (l : List Oper) (el : List Bool) (k : List Oper → Prop) : Prop := match allT el with
  | true => k []
  | false => listK (masksT l []) fun bf => listK (fltsOf bf el l 0) k
def vcLate (ops : Array Oper) (fl : List Oper) (l : List Oper) : List Bool → St → (St → Prop) → Prop :=
  List.rec (motive := fun _ => List Bool → St → (St → Prop) → Prop) (fun _ st K => K st)
    (fun o _ ih el st K => match el with
      | [] => False
      | true :: el => ih el st K
      | false :: el => match st with
        | ⟨ts, bs, rs, ys, pn⟩ => match fl with
          | [] => lenK bs 0 fun nb => lenK rs 0 fun nr => vcOp TT C Y false nb nr ops o ⟨ts, bs, rs, ys, pn⟩ fun st' => ih el st' K
          | f :: fl => match o.guard with
            | none => lenK bs 0 fun nb => lenK rs 0 fun nr => vcOp TT C Y false nb nr ops o ⟨ts, bs, rs, ys, pn⟩ fun st' => fltL TT C Y (f :: fl) st' (ih el st' K)
            | some _ => False) l

def vcDraw (ops : Array Oper) (st : St) (K : St → Prop) : Prop :=
  match st with
  | ⟨ts, bs, rs, ys, pn⟩ => lenK bs 0 fun nb => lenK rs 0 fun nr => boolLK (elOf C ops.toList) fun el => vcPre TT C Y ops nb nr 0 ops.toList el ⟨ts, bs, rs, ys, pn⟩ fun st' =>
      fltsK ops.toList el fun fl => fltL TT C Y fl st' (vcLate TT C Y ops fl ops.toList el st' K)
def drawsOk : Code → Bool
  | .region _ ops draw => !draw || drawOk C ops
  | .seq a b => drawsOk a && drawsOk b
  | .cond _ a b => drawsOk a && drawsOk b
  | .block _ a => drawsOk a
  | .loop a => drawsOk a
  | .scope a => drawsOk a
  | .rangeFunc _ _ a b => drawsOk a && drawsOk b
  | _ => true
end

section
variable (TT : TypeId → Option TD) (C : Nat → Option Con) (Y : List (List AV) → List AV → Option (Prop × Bool)) (LO : Array Oper → List Oper → St → (St → Prop) → Prop) (Leaf : Code → St → (Exit → St → Prop) → Prop)

def exitThen (k : St → Prop) (K : Exit → St → Prop) : Exit → St → Prop
  | .normal, st => k st
  | e, st => K e st
def exitBlock (id : Nat) (K : Exit → St → Prop) : Exit → St → Prop
  | .exit id', st => if id' = id then K .normal st else K (.exit id') st
  | e, st => K e st

def vcG (c : Code) : St → (Exit → St → Prop) → Prop :=
  Code.rec (motive := fun _ => St → (Exit → St → Prop) → Prop)
    (fun st K => K .normal st)
    (fun _ ops draw st K => match draw with
      | false => vcOps TT C Y LO ops ops.toList st (fun st => K .normal st)
      | true => vcDraw TT C Y ops st (fun st => K .normal st))
    (fun _ _ iha ihb st K => iha st (exitThen (fun st => ihb st K) K))
    (fun c _ _ iht ihe st K => match opnd st.tmps c with
      | .b x => (x = true → iht st K) ∧ (x = false → ihe st K)
      | _ => False)
    (fun id _ ih st K => ih st (exitBlock id K))
    (fun body _ => Leaf (.loop body))
    (fun f ps asg body _ _ => Leaf (.rangeFunc f ps asg body))
    (fun id st K => K (.exit id) st)
    (fun body _ => Leaf (.scope body))
    (fun l => Leaf (.label l))
    (fun l => Leaf (.goto l))
    (fun st K => K .ret st)
    (fun s => Leaf (.refuse s)) c
end

def fillAny : Nat → List AV → List AV
  | 0, l => l
  | n + 1, [] => .any :: fillAny n []
  | n + 1, x :: l => x :: fillAny n l

def resultOf (TT : TypeId → Option TD) (st : St) : ResultVar → Option RV
  | .tmp t => resolve st (getK .any st.tmps t)
  | .cell t T => match getK .any st.tmps t, TT T with
    | .box id 0, some d => match getK none st.boxes id with
      | some bx => if d.k.isAgg = true ∧ d.size = bx.cells.length then resolve st (.agg bx.cells) else if d.k.isAgg = false ∧ d.size = 1 ∧ bx.cells.length = 1 then resolve st (getK .any bx.cells 0) else none
      | none => none
    | _, _ => none
def resultsOf (TT : TypeId → Option TD) (st : St) : List ResultVar → Option (List RV)
  | [] => some []
  | r :: l => match resultOf TT st r with
    | some v => match resultsOf TT st l with | some vs => some (v :: vs) | none => none
    | none => none
inductive Done (p : Prop) : Prop
  | mk : p → Done p
def endOf (TT : TypeId → Option TD) (fn : Func) (post : List RV → Prop) : Exit → St → Prop
  | .normal, st | .ret, st => match resultsOf TT st fn.results.toList with
    | some vs => Done (post vs)
    | none => False
  | _, _ => False

mutual
def imp (kill : List Nat) (nb nr : Nat) : RV → AV × List (Option Box) × List (Option Row)
  | .a v => (v, [], [])
  | .box _ off T _ cells => match impL kill (nb + 1) nr cells with | (vs, bs, rs) => (.box nb off, some ⟨T, vs, false⟩ :: bs, rs)
  | .row id ⟨T, k, l, own⟩ => (.row nr, [], [some ⟨T, k, l, kill.contains id && own⟩])
  | .view _ lo hi _ ⟨T, k, l, _⟩ => (.row nr, [], [some ⟨T, k, cutL lo hi l, false⟩])
  | .arrp .. => (.any, [], [])
  | .elt .. => (.any, [], [])
  | .fn f l => match impL kill nb nr l with | (vs, bs, rs) => (.fn f vs, bs, rs)
  | .agg l => match impL kill nb nr l with | (vs, bs, rs) => (.agg vs, bs, rs)
  | .tup l => match impL kill nb nr l with | (vs, bs, rs) => (.tup vs, bs, rs)
def impL (kill : List Nat) (nb nr : Nat) : List RV → List AV × List (Option Box) × List (Option Row)
  | [] => ([], [], [])
  | x :: l => match imp kill nb nr x with
    | (v, bs, rs) => match impL kill (nb + bs.length) (nr + rs.length) l with
      | (vs, bs', rs') => (v :: vs, appendList bs bs', appendList rs rs')
end
def normL : List (Option (TypeId × EK)) → List RV → List RV
  | [], l => l
  | _, [] => []
  | none :: ss, x :: l => x :: normL ss l
  | some (T, k) :: ss, .a .nils :: l => .row 999999 ⟨T, k, [], true⟩ :: normL ss l
  | some _ :: ss, x :: l => x :: normL ss l
mutual
def chk : RT → RV → Prop
  | .a v, .a u => u = v
  | .row r, .row _ r' => r' = r
  | .row r, .view _ lo hi ex r' => lo = 0 ∧ hi ≤ r'.l.length ∧ ex = true ∧ (⟨r'.T, r'.k, r'.l.take hi, r'.own⟩ : Row) = r
  | .row r, .a .nils => r.l = [] ∧ r.own = true
  | .box T l, .box _ off T' own m => off = 0 ∧ T = T' ∧ own = true ∧ chkL l m
  | .fn f l, .fn g m => f = g ∧ chkL l m
  | .agg l, .agg m => chkL l m
  | .tup l, .tup m => chkL l m
  | _, _ => False
def chkL : List RT → List RV → Prop
  | [], [] => True
  | x :: l, y :: m => chk x y ∧ chkL l m
  | _, _ => False
end
mutual
def idsOf : RT → RV → List (Option Nat)
  | .row _, .row id _ => [some id]
  | .row _, .view id _ _ _ _ => [some id]
  | .row _, .a .nils => [none]
  | .box _ l, .box _ _ _ _ m => idsL l m
  | .fn _ l, .fn _ m => idsL l m
  | .agg l, .agg m => idsL l m
  | .tup l, .tup m => idsL l m
  | _, _ => []
def idsL : List RT → List RV → List (Option Nat)
  | x :: l, y :: m => appendList (idsOf x y) (idsL l m)
  | _, _ => []
end
mutual
def bidsOf : RT → RV → List (Option Nat)
  | .box _ l, .box id _ _ _ m => some id :: bidsL l m
  | .fn _ l, .fn _ m => bidsL l m
  | .agg l, .agg m => bidsL l m
  | .tup l, .tup m => bidsL l m
  | _, _ => []
def bidsL : List RT → List RV → List (Option Nat)
  | x :: l, y :: m => appendList (bidsOf x y) (bidsL l m)
  | _, _ => []
end
def nodupB : List (Option Nat) → Bool
  | [] => true
  | none :: l => nodupB l
  | some x :: l => !l.contains (some x) && nodupB l
mutual
def RT.own : RT → Bool
  | .a _ => true
  | .row r => r.own
  | .box _ l => RT.ownL l
  | .fn _ l => RT.ownL l
  | .agg l => RT.ownL l
  | .tup l => RT.ownL l
def RT.ownL : List RT → Bool
  | [] => true
  | x :: l => x.own && RT.ownL l
end
def postOf (res : RT) : List RV → Prop
  | [r] => chk res r ∧ (nodupB (idsOf res r) && nodupB (bidsOf res r)) = true
  | rs => match res with
    | .tup l => chkL l rs ∧ (nodupB (idsL l rs) && nodupB (bidsL l rs)) = true
    | _ => False
end Go.X

namespace Go.X
open Go.RowKit
structure Env where
  β : Nat → Nat
  ρ : Nat → Value
  M : Nat → Prop
  D : List Nat
  l : Nat

mutual
def R (st : St) (e : Env) : AV → Value → Prop
  | .i k n, x => x = .int k n
  | .b y, x => x = .bool y
  | .s y, x => x = .string y
  | .nilp, x => x = .pointer none
  | .mp b, x => x = .map (some b)
  | .pt b, x => x = .pointer (some ⟨b, 0, none⟩)
  | .nilf, x => x = .nilFunc
  | .nili, x => x = .nilIface
  | .nils, x => x = .slice none 0 0
  | .box id off, x => (∃ bx, getK none st.boxes id = some bx) ∧ x = .pointer (some ⟨e.β id, off, none⟩)
  | .row id, x => (∃ r, getK none st.rows id = some r) ∧ x = e.ρ id
  | .view id lo hi ex, x => ∃ r, getK none st.rows id = some r ∧ lo ≤ hi ∧ hi ≤ r.l.length ∧ ∃ a n c a' c', e.ρ id = .slice a n c ∧ x = .slice a' (hi - lo) c' ∧
      (lo < hi → ∃ p, a = some p ∧ a' = some (p.add (lo * r.k.size))) ∧ (lo = 0 → ex = true → a' = a ∧ c' = c) ∧ (a' = none → c' = 0) ∧ hi - lo ≤ c'
  | .arrp id, x => ∃ r, getK none st.rows id = some r ∧ ∃ g n c, e.ρ id = .slice (some ⟨g, 0, none⟩) n c ∧ x = .pointer (some ⟨g, 0, none⟩)
  | .elt id ix sub, x => ∃ r, getK none st.rows id = some r ∧ ix < r.l.length ∧ ∃ a n c, e.ρ id = .slice (some a) n c ∧ x = .pointer (some (a.add (ix * r.k.size + sub)))
  | .fn f l, x => ∃ vs, x = .func (.func f) #[] vs.toArray ∧ RL st e l vs
  | .yv, x => x = .func (.yield e.l) #[] #[]
  | .agg l, x => ∃ vs, x = .agg vs.toArray ∧ RL st e l vs
  | .tup l, x => ∃ vs, x = .tuple vs.toArray ∧ RL st e l vs
  | .opt g v, x => (g = true → R st e v x) ∧ (g = false → x = undef)
  | .ifc T v, x => ∃ y, x = .iface T y ∧ R st e v y
  | .any, _ => True
def RL (st : St) (e : Env) : List AV → List Value → Prop
  | [], vs => vs = []
  | x :: l, vs => ∃ v vs', vs = v :: vs' ∧ R st e x v ∧ RL st e l vs'
end
def valsOf (k : EK) (l : List k.ty) : List Value := l.flatMap k.vals
structure Ctx where
  base : Nat
  wr : Nat → Prop
  w0 : World
  size : base = w0.heap.size
  g0 : Nat
  g0_le : g0 ≤ base
  wr_ge : ∀ k, wr k → g0 ≤ k
  r : Option Nat
  l : Nat
  pv : List Value
  D0 : List Nat
  J : List (List AV) → (Nat → Prop) → World → Prop
  Jlt : ∀ ys M w, J ys M w → ∀ k, M k → k < w.heap.size
  Jst : ∀ ys M w w', J ys M w → w'.os = w.os → w'.tape = w.tape → w'.output = w.output → w.heap.size ≤ w'.heap.size → (∀ k, M k → w'.heap[k]? = w.heap[k]?) → J ys M w'

structure Frame (c : Ctx) (w : World) : Prop where
  os : w.os = c.w0.os
  tape : w.tape = c.w0.tape
  output : w.output = c.w0.output
  size : c.w0.heap.size ≤ w.heap.size
  block : ∀ k, k < c.base → ¬ c.wr k → w.heap[k]? = c.w0.heap[k]?
def Mine (c : Ctx) (M : Nat → Prop) (g : Nat) : Prop := (c.base ≤ g ∨ c.wr g) ∧ ¬ M g
def Fixed (c : Ctx) (M : Nat → Prop) (g : Nat) : Prop := g < c.base ∧ ¬ c.wr g ∧ ¬ M g
def FZ (k : EK) (fz : Nat × Nat) (cur : Array Value) : Prop := match k with
  | .byte => cur.size ≤ fz.1
  | _ => fz = (0, 0)
def Owns (w : World) (T : TypeId) (k : EK) (v : Value) (l : List k.ty) : Prop :=
  (v = .slice none 0 0 ∧ l = []) ∨
  ∃ g cap cur fz, v = .slice (some ⟨g, 0, none⟩) l.length cap ∧ w.heap[g]? = some (.cells cur T fz) ∧ FZ k fz cur ∧ l.length ≤ cap ∧ cap ≤ maxLen ∧ cur.size = cap * k.size ∧ cur.toList.take (l.length * k.size) = valsOf k l

def BoxOK (c : Ctx) (e : Env) (st : St) (w : World) (id : Nat) (bx : Box) : Prop :=
  (∃ vs : List Value, w.heap[e.β id]? = some (.cells vs.toArray bx.T (0, 0)) ∧ RL st e bx.cells vs ∧ ∀ v ∈ vs, v.oneCell' = true) ∧
  match bx.own with
  | true => Mine c e.M (e.β id)
  | false => Fixed c e.M (e.β id)

def RowOK (c : Ctx) (e : Env) (w : World) (id : Nat) (r : Row) : Prop :=
  0 < r.k.size ∧
  match r.own with
  | true => Owns w r.T r.k (e.ρ id) r.l ∧ ∀ g, (e.ρ id).ownBlock = some g → Mine c e.M g
  | false => ∃ a cap, e.ρ id = .slice a r.l.length cap ∧ r.l.length ≤ cap ∧ (a = none → cap = 0) ∧ ∀ j v, (valsOf r.k r.l)[j]? = some v → ∃ b, a = some b ∧ Fixed c e.M b.block ∧ c.w0.cell? (b.add j) = some v

def blkB (e : Env) (st : St) (id : Nat) : Option Nat :=
  match getK none st.boxes id with
  | some bx => if bx.own then some (e.β id) else none
  | none => none
def blkR (e : Env) (st : St) (id : Nat) : Option Nat :=
  match getK none st.rows id with
  | some r => if r.own then (e.ρ id).ownBlock else none
  | none => none

structure HeapOK (c : Ctx) (e : Env) (st : St) (w : World) : Prop where
  frame : Frame c w
  box : ∀ id bx, getK none st.boxes id = some bx → BoxOK c e st w id bx
  row : ∀ id r, getK none st.rows id = some r → RowOK c e w id r
  injB : ∀ i j g, blkB e st i = some g → blkB e st j = some g → i = j
  injR : ∀ i j g, blkR e st i = some g → blkR e st j = some g → i = j
  apart : ∀ i j g, blkB e st i = some g → blkR e st j ≠ some g
  out : c.J st.ys e.M w
  defd : ∀ D ∈ e.D, w.heap[D]? = some (.deferred (some []))
  defm : ∀ D ∈ e.D, ¬ e.M D ∧ c.base ≤ D
  mwr : ∀ k, e.M k → c.wr k ∨ c.base ≤ k
  yl : e.l = c.l
  nd : e.D.Nodup
  pin : RL st e st.pin c.pv
def marks (l : List Nat) : List Deferred := l.map fun D => { target := .collected D, args := #[] }
def DfOK (c : Ctx) (D : List Nat) (ds : List Deferred) : Prop := ∃ own, D = own ++ c.D0 ∧ ds = marks own
def TmpsOK (c : Ctx) (st : St) (e : Env) (a : Act) : Prop := RL st e st.tmps a.tmps.toList ∧ DfOK c e.D a.defers
structure Pres (st : St) (e : Env) (st' : St) (e' : Env) (ids : List Nat) : Prop where
  keep : ∀ v x, R st e v x → R st' e' (sweep ids v) x
  D : e'.D = e.D

theorem RL_get {st : St} {e : Env} {l : List AV} {vs : List Value} (h : RL st e l vs) (n : Nat) : R st e (getK .any l n) (vs[n]?.getD undef) := by
  induction l generalizing vs n with
  | nil => simp [getK, R]
  | cons x l ih =>
    obtain ⟨v, vs', rfl, hx, hl⟩ := h
    cases n with
    | zero => simpa [getK] using hx
    | succ n => simpa [getK] using ih hl n

theorem RL_length {st : St} {e : Env} {l : List AV} {vs : List Value} (h : RL st e l vs) : vs.length = l.length := by
  induction l generalizing vs with
  | nil => simp [RL] at h; simp [h]
  | cons x l ih => obtain ⟨v, vs', rfl, _, hl⟩ := h; simp [ih hl]

theorem RL_mono {st st' : St} {e e' : Env} {l : List AV} {f : AV → AV} (hf : ∀ v x, R st e v x → R st' e' (f v) x) {vs : List Value} (h : RL st e l vs) : RL st' e' (mapK f l) vs := by
  induction l generalizing vs with
  | nil => simpa [RL, mapK] using h
  | cons x l ih => obtain ⟨v, vs', rfl, hx, hl⟩ := h; exact ⟨v, vs', rfl, hf _ _ hx, ih hl⟩

theorem selfA_RL {st : St} {e : Env} {id : Nat} {l : List AV} {vs : List Value} (h : RL st e l vs) : RL st e (mapK (selfA id) l) vs := by
  refine RL_mono (fun v x hv => ?_) h
  unfold selfA
  split
  · split
    · trivial
    · exact hv
  · exact hv
theorem setK_eq {α : Type} {β : Sort 1} (l : List α) (n : Nat) (v : α) (k : List α → β) : setK l n v k = k (l.set n v) := by
  induction l generalizing n k with
  | nil => simp [setK]
  | cons x l ih => cases n with
    | zero => simp [setK]
    | succ n => simp [setK, ih]

theorem RL_set {st : St} {e : Env} {l : List AV} {vs : List Value} (h : RL st e l vs) (n : Nat) {a : AV} {v : Value} (hv : R st e a v) : RL st e (l.set n a) (vs.set n v) := by
  induction l generalizing vs n with
  | nil => simp only [RL] at h; subst h; simp [RL]
  | cons x l ih =>
    obtain ⟨u, vs', rfl, hx, hl⟩ := h
    cases n with
    | zero => exact ⟨v, vs', rfl, hv, hl⟩
    | succ n => exact ⟨u, vs'.set n v, rfl, hx, ih hl n⟩

theorem RL_append {st : St} {e : Env} {l m : List AV} {vs ws : List Value} (h : RL st e l vs) (h' : RL st e m ws) : RL st e (l ++ m) (vs ++ ws) := by
  induction l generalizing vs with
  | nil => simp only [RL] at h; subst h; simpa using h'
  | cons x l ih => obtain ⟨u, vs', rfl, hx, hl⟩ := h; exact ⟨u, vs' ++ ws, rfl, hx, ih hl⟩

section
variable {st st' : St} {e e' : Env} {ids : List Nat}
mutual
theorem keep_R (hl : e'.l = e.l) (hb : ∀ id bx, getK none st.boxes id = some bx → (∃ bx', getK none st'.boxes id = some bx') ∧ e'.β id = e.β id)
    (hr : ∀ id r, id ∉ ids → getK none st.rows id = some r → (∃ r', getK none st'.rows id = some r' ∧ r'.k.size = r.k.size ∧ r.l.length ≤ r'.l.length) ∧ e'.ρ id = e.ρ id) (v : AV) (x : Value) (hh : v.hits ids = false) (h : R st e v x) : R st' e' v x := by
  match v with
  | .i k n => exact h
  | .b y => exact h
  | .s y => exact h
  | .nilp => exact h
  | .mp _ => exact h
  | .pt _ => exact h
  | .nilf => exact h
  | .nili => exact h
  | .nils => exact h
  | .yv => simp only [R] at h ⊢; rw [hl]; exact h
  | .box id off =>
    obtain ⟨⟨bx, hbx⟩, rfl⟩ := h
    obtain ⟨h1, h2⟩ := hb id bx hbx
    exact ⟨h1, by rw [h2]⟩
  | .row id =>
    obtain ⟨⟨r, hrr⟩, rfl⟩ := h
    obtain ⟨⟨r', h1, _⟩, h2⟩ := hr id r (by simpa [AV.hits] using hh) hrr
    exact ⟨⟨r', h1⟩, by rw [h2]⟩
  | .view id lo hi ex =>
    obtain ⟨r, hrr, h3, h4, a, n, c, a', c', h5, h6, h7, h8⟩ := h
    obtain ⟨⟨r', h1, h9, h10⟩, h2⟩ := hr id r (by simpa [AV.hits] using hh) hrr
    exact ⟨r', h1, h3, by omega, a, n, c, a', c', by rw [h2]; exact h5, h6, by rw [h9]; exact h7, h8⟩
  | .arrp id =>
    obtain ⟨r, hrr, g, n, c, h5, h6⟩ := h
    obtain ⟨⟨r', h1, _⟩, h2⟩ := hr id r (by simpa [AV.hits] using hh) hrr
    exact ⟨r', h1, g, n, c, by rw [h2]; exact h5, h6⟩
  | .elt id ix sub =>
    obtain ⟨r, hrr, hix, a, n, c, hv, rfl⟩ := h
    obtain ⟨⟨r', h1, h3, h4⟩, h2⟩ := hr id r (by simpa [AV.hits] using hh) hrr
    exact ⟨r', h1, by omega, a, n, c, by rw [h2]; exact hv, by rw [h3]⟩
  | .fn f l => obtain ⟨vs, rfl, hl'⟩ := h; exact ⟨vs, rfl, keep_RL hl hb hr l vs (by simpa [AV.hits] using hh) hl'⟩
  | .agg l => obtain ⟨vs, rfl, hl'⟩ := h; exact ⟨vs, rfl, keep_RL hl hb hr l vs (by simpa [AV.hits] using hh) hl'⟩
  | .tup l => obtain ⟨vs, rfl, hl'⟩ := h; exact ⟨vs, rfl, keep_RL hl hb hr l vs (by simpa [AV.hits] using hh) hl'⟩
  | .opt g v => exact ⟨fun hg => keep_R hl hb hr v x (by simpa [AV.hits] using hh) (h.1 hg), h.2⟩
  | .ifc T v => obtain ⟨y, rfl, hy⟩ := h; exact ⟨y, rfl, keep_R hl hb hr v y (by simpa [AV.hits] using hh) hy⟩
  | .any => trivial
theorem keep_RL (hl : e'.l = e.l) (hb : ∀ id bx, getK none st.boxes id = some bx → (∃ bx', getK none st'.boxes id = some bx') ∧ e'.β id = e.β id)
    (hr : ∀ id r, id ∉ ids → getK none st.rows id = some r → (∃ r', getK none st'.rows id = some r' ∧ r'.k.size = r.k.size ∧ r.l.length ≤ r'.l.length) ∧ e'.ρ id = e.ρ id) (l : List AV) (vs : List Value) (hh : AV.hitsL ids l = false) (h : RL st e l vs) : RL st' e' l vs := by
  match l with
  | [] => exact h
  | x :: l =>
    obtain ⟨v, vs', rfl, hx, hl'⟩ := h
    simp [AV.hitsL] at hh
    exact ⟨v, vs', rfl, keep_R hl hb hr x v hh.1 hx, keep_RL hl hb hr l vs' hh.2 hl'⟩
end
end
theorem pres_of {st st' : St} {e e' : Env} {ids : List Nat} (hl : e'.l = e.l) (hD : e'.D = e.D) (hb : ∀ id bx, getK none st.boxes id = some bx → (∃ bx', getK none st'.boxes id = some bx') ∧ e'.β id = e.β id)
    (hr : ∀ id r, id ∉ ids → getK none st.rows id = some r → (∃ r', getK none st'.rows id = some r' ∧ r'.k.size = r.k.size ∧ r.l.length ≤ r'.l.length) ∧ e'.ρ id = e.ρ id) : Pres st e st' e' ids := by
  refine ⟨fun v x h => ?_, hD⟩
  unfold sweep
  by_cases hh : v.hits ids = true
  · simp [hh, R]
  · simp only [hh]
    exact keep_R hl hb hr v x (by simpa using hh) h

mutual
theorem hits_nil (v : AV) : v.hits [] = false := by
  match v with
  | .i .. | .b .. | .s .. | .nilp | .nilf | .nili | .nils | .mp _ | .pt _ | .box .. | .yv | .any => rfl
  | .row _ => rfl
  | .view .. => rfl
  | .arrp _ => rfl
  | .elt .. => rfl
  | .fn f l => simpa [AV.hits] using hitsL_nil l
  | .agg l => simpa [AV.hits] using hitsL_nil l
  | .tup l => simpa [AV.hits] using hitsL_nil l
  | .opt g v => simpa [AV.hits] using hits_nil v
  | .ifc g v => simpa [AV.hits] using hits_nil v
theorem hitsL_nil (l : List AV) : AV.hitsL [] l = false := by
  match l with
  | [] => rfl
  | x :: l => simp [AV.hitsL, hits_nil x, hitsL_nil l]
end
theorem sweep_nil (v : AV) : sweep [] v = v := by simp [sweep, hits_nil]
theorem mapK_sweep_nil (l : List AV) : mapK (sweep []) l = l := by
  induction l with
  | nil => rfl
  | cons x l ih => simp [mapK, ih, sweep_nil]

theorem getK_putAt {α : Type} (d : α) (l : List α) (n m : Nat) (v : α) : getK d (putAt d l n v) m = if m = n then v else getK d l m := by
  induction l generalizing n m with
  | nil =>
    induction n generalizing m with
    | zero => cases m <;> simp [putAt, getK]
    | succ n ih => cases m with
      | zero => simp [putAt, getK]
      | succ m => simp only [putAt, getK, ih]; simp
  | cons x l ih =>
    cases n with
    | zero => cases m <;> simp [putAt, getK]
    | succ n => cases m with
      | zero => simp [putAt, getK]
      | succ m => simp only [putAt, getK, ih]; simp

theorem getK_mapK {α β : Type} (f : α → β) (d : α) (d' : β) (hd : f d = d') (l : List α) (n : Nat) : getK d' (mapK f l) n = f (getK d l n) := by
  induction l generalizing n with
  | nil => simp [mapK, getK, hd]
  | cons x l ih => cases n <;> simp [mapK, getK, ih]

theorem getK_length {α : Type} (d : α) (l : List α) (n : Nat) (h : l.length ≤ n) : getK d l n = d := by
  induction l generalizing n with
  | nil => rfl
  | cons x l ih => cases n with
    | zero => simp at h
    | succ n => exact ih n (by simpa using h)

mutual
theorem closed_R {st st' : St} {e e' : Env} (v : AV) (x : Value) (hc : v.closed = true) (h : R st e v x) : R st' e' v x := by
  match v with
  | .i .. | .b _ | .s _ | .nilp | .nilf | .nili | .nils | .mp _ | .pt _ => exact h
  | .agg l => obtain ⟨vs, h1, h2⟩ := h; exact ⟨vs, h1, closed_RL l vs (by simpa [AV.closed] using hc) h2⟩
  | .ifc T v => obtain ⟨y, h1, h2⟩ := h; exact ⟨y, h1, closed_R v y (by simpa [AV.closed] using hc) h2⟩
  | .box .. | .row _ | .view .. | .arrp _ | .elt .. | .fn .. | .yv | .tup _ | .opt .. | .any => simp [AV.closed] at hc
theorem closed_RL {st st' : St} {e e' : Env} (l : List AV) (vs : List Value) (hc : AV.closedL l = true) (h : RL st e l vs) : RL st' e' l vs := by
  match l with
  | [] => exact h
  | x :: l =>
    simp only [AV.closedL, Bool.and_eq_true] at hc
    obtain ⟨v, vs', h1, h2, h3⟩ := h
    exact ⟨v, vs', h1, closed_R x v hc.1 h2, closed_RL l vs' hc.2 h3⟩
end
end Go.X

namespace Go.X
open Go.RowKit

def TKOK (P : Program) (t : TypeId) : TK → Prop
  | .int k => P.underlying t = some (.int k)
  | .bool => P.underlying t = some .bool
  | .str => P.underlying t = some .string
  | .ptr e => P.underlying t = some (.pointer e)
  | .slice e => P.underlying t = some (.slice e)
  | .arr n e => P.underlying t = some (.array n e)
  | .struct fs => ∃ fields : Array Field, P.underlying t = some (.struct fields) ∧ mapK (fun f => (f.offset, f.type)) fields.toList = fs
  | .func => ∃ a b c, P.underlying t = some (.func a b c)
  | .iface => ∃ m, P.underlying t = some (.interface m)
  | .map k v => P.underlying t = some (.map k v)
  | .tup => ∃ l, P.underlying t = some (.tuple l)

structure TDOK (P : Program) (t : TypeId) (d : TD) : Prop where
  k : TKOK P t d.k
  info : ∃ i, P.info? t = some i ∧ i.size = d.size ∧ i.bytes = d.bytes ∧ ∃ z, i.zero = some z ∧ (d.big = none → ∀ st e, RL st e d.zero z.cells.toList) ∧ (∀ v ∈ z.cells.toList, v.oneCell' = true) ∧ z.cells.toList.length = d.size ∧
    ∀ k n, d.big = some (k, n) → z.cells.toList = valsOf k (List.replicate n k.dflt) ∧ n ≤ 1000 ∧ k ≠ .byte
  ek : ∀ k, d.ek = some k → d.size = k.size ∧ k ≠ .byte
  zek : ∀ k, d.ek = some k → ∀ i z, P.info? t = some i → i.zero = some z → z.cells.toList = k.vals k.dflt
  eqs : d.eqs = true → ∀ k, d.ek = some k → P.eqGuardType P.depth t = false ∧ ∀ (x y : k.ty) (w : World), (Op.equalIn 10000 t (.agg (k.vals x).toArray) (.agg (k.vals y).toArray)).run P w = .ok (k.eqb x y) w

def TTOK (P : Program) (TT : TypeId → Option TD) : Prop := ∀ t d, TT t = some d → TDOK P t d
def Goes (P : Program) (c : Ctx) (st : St) (e : Env) (a : Act) (w : World) (o : Oper) (ids : List Nat) (st' : St) (av : AV) : Prop :=
  ∀ (K : Act → World → Prop) (Q : Exit → Act → World → Prop), (∀ v w' e', HeapOK c e' st' w' → Pres st e st' e' ids → R st' e' av v → K (a.put o.dst v) w') → o.wp P a w K Q

section
variable {P : Program} {c : Ctx} {st : St} {e : Env} {a : Act} {w : World} {o : Oper} {av : AV}

theorem pres_refl : Pres st e st e [] := ⟨fun v x h => by rw [sweep_nil]; exact h, rfl⟩

theorem goes_value {v : Value} (hh : HeapOK c e st w) (hr : (execOp a.eval o).run P w = .ok (.value v) w) (hv : R st e av v) : Goes P c st e a w o [] st av := by
  intro K Q h
  unfold Oper.wp
  rw [hr]
  exact h v w e hh pres_refl hv

theorem underlying_agg {d : TD} {t : TypeId} (h : TDOK P t d) : (isAgg t).run P w = .ok d.k.isAgg w := by
  have := h.k
  unfold isAgg
  cases hk : d.k <;> simp only [hk, TKOK] at this <;>
    first
      | (simp [run_underlying this, TK.isAgg]; done)
      | (obtain ⟨f, hf, _⟩ := this; simp [run_underlying hf, TK.isAgg]; done)
      | (obtain ⟨x, y, z, hf⟩ := this; simp [run_underlying hf, TK.isAgg]; done)
      | (obtain ⟨x, hf⟩ := this; simp [run_underlying hf, TK.isAgg]; done)

theorem run_size {d : TD} {t : TypeId} (h : TDOK P t d) : (sizeOf t).run P w = .ok d.size w := by
  obtain ⟨i, hi, hs, _⟩ := h.info
  simp [sizeOf, typeInfo, hi, hs]

theorem op_move {x : Operand} (hh : HeapOK c e st w) (ho : o.op = .move x ∨ o.op = .assign x) (hx : R st e av (a.eval x)) : Goes P c st e a w o [] st av :=
  goes_value hh (by rcases ho with ho | ho <;> simp [execOp, ho]) hx

theorem op_pick {cc x y : Operand} {b : Bool} (hh : HeapOK c e st w) (ho : o.op = .pick cc x y) (hc : a.eval cc = .bool b)
    (hx : b = true → R st e av (a.eval x)) (hy : b = false → R st e av (a.eval y)) : Goes P c st e a w o [] st av := by
  refine goes_value (v := if b then a.eval x else a.eval y) hh (by simp [execOp, ho, hc, asBool]) ?_
  cases b
  · simpa using hy rfl
  · simpa using hx rfl

theorem binI_run {op : BinOp} {k yk : IntKind} {m n : Int} {pre : List Prop} (T : TypeId) (x y : Operand) (hb : binI op k m n = some (pre, av)) (hk : k = yk ∨ op = .shl ∨ op = .shr) (hp : ∀ p ∈ pre, p) :
    ∃ v, (do eqGuard op T x y (.int k m) (.int yk n); binOp op T (.int k m) (.int yk n) : Sem Value).run P w = .ok v w ∧ R st e av v := by
  by_cases hs : op = .shl ∨ op = .shr
  · rcases hs with rfl | rfl <;> simp only [binI, Option.some.injEq, Prod.mk.injEq] at hb <;> obtain ⟨rfl, rfl⟩ := hb <;> simp only [eqGuard_at_int]
    all_goals
      have h0 : 0 ≤ n := hp _ (by simp)
      exact ⟨_, by simp [binOp, Op.shift, show ¬ n < 0 by omega], rfl⟩
  · obtain rfl : k = yk := by rcases hk with h | h; exact h; exact absurd h hs
    clear hk
    cases op <;> simp only [binI, Option.some.injEq, Prod.mk.injEq] at hb <;> obtain ⟨rfl, rfl⟩ := hb <;> simp only [eqGuard_at_int]
    case shl => simp at hs
    case shr => simp at hs
    case quo =>
      have h0 : n ≠ 0 := hp _ (List.mem_singleton.2 rfl)
      exact ⟨_, by simp [binOp, Op.intDiv, h0], rfl⟩
    case rem =>
      have h0 : n ≠ 0 := hp _ (List.mem_singleton.2 rfl)
      exact ⟨_, by simp [binOp, Op.intDiv, h0], rfl⟩
    case add => exact ⟨_, by simp [binOp, Op.intArith], rfl⟩
    case sub => exact ⟨_, by simp [binOp, Op.intArith], rfl⟩
    case mul => exact ⟨_, by simp [binOp, Op.intArith], rfl⟩
    case and => exact ⟨_, by rw [binOp_and, intBits_and]; rfl, rfl⟩
    case or => exact ⟨_, by rw [binOp_or, intBits_or]; rfl, rfl⟩
    case xor => exact ⟨_, by rw [binOp_xor, intBits_xor]; rfl, rfl⟩
    case andNot => exact ⟨_, by rw [binOp_andNot, intBits_andNot]; rfl, rfl⟩
    case eql => exact ⟨_, by rw [binOp_eql]; rfl, rfl⟩
    case neq => exact ⟨_, by rw [binOp_neq]; rfl, rfl⟩
    case lss => exact ⟨_, by rw [binOp_lss]; rfl, rfl⟩
    case leq => exact ⟨_, by rw [binOp_leq]; rfl, rfl⟩
    case gtr => exact ⟨_, by rw [binOp_gtr]; rfl, rfl⟩
    case geq => exact ⟨_, by rw [binOp_geq]; rfl, rfl⟩

theorem op_binI {op : BinOp} {T T' : TypeId} {x y : Operand} {k yk : IntKind} {m n : Int} {pre : List Prop} (hh : HeapOK c e st w) (ho : o.op = .binOp op T x y T')
    (hx : a.eval x = .int k m) (hy : a.eval y = .int yk n) (hb : binI op k m n = some (pre, av)) (hk : k = yk ∨ op = .shl ∨ op = .shr) (hp : ∀ p ∈ pre, p) : Goes P c st e a w o [] st av := by
  obtain ⟨v, hv, hr⟩ := binI_run (P := P) (w := w) (st := st) (e := e) T x y hb hk hp
  refine goes_value (v := v) hh ?_ hr
  simp only [execOp, ho, hx, hy]
  rw [Sem.run_bind, hv]
  rfl

theorem op_binS {op : BinOp} {T T' : TypeId} {x y : Operand} {m n : ByteArray} {pre : List Prop} (hh : HeapOK c e st w) (ho : o.op = .binOp op T x y T')
    (hx : a.eval x = .string m) (hy : a.eval y = .string n) (hb : binS op m n = some (pre, av)) (hp : ∀ p ∈ pre, p) : Goes P c st e a w o [] st av := by
  have key : ∀ v, (Op.stringOp op m n).run P w = .ok v w → R st e av v → Goes P c st e a w o [] st av := fun v h hr => by
    refine goes_value (v := v) hh ?_ hr
    simp only [execOp, ho, hx, hy, eqGuard_at_string]
    have : binOp op T (.string m) (.string n) = Op.stringOp op m n := by cases op <;> rfl
    rw [this]
    simp [h]
  cases op <;> simp only [binS, Option.some.injEq, Prod.mk.injEq, reduceCtorEq] at hb <;> obtain ⟨rfl, rfl⟩ := hb
  case add =>
    have h0 : m.size + n.size ≤ 9223372036854775807 := hp _ (List.mem_singleton.2 rfl)
    have h1 : ¬ (((m.size + n.size : Nat) : Int) > IntKind.i64.max) := by rw [IntKind.max_i64]; omega
    exact key _ (by unfold Op.stringOp; simp only [if_neg h1]; rfl) rfl
  all_goals exact key _ rfl rfl

theorem op_binB {op : BinOp} {T T' : TypeId} {x y : Operand} {m n : Bool} (hh : HeapOK c e st w) (ho : o.op = .binOp op T x y T') (hT : P.underlying T = some .bool)
    (hx : a.eval x = .bool m) (hy : a.eval y = .bool n) (hop : (op = .eql ∧ av = .b (m == n)) ∨ (op = .neq ∧ av = .b (!(m == n)))) : Goes P c st e a w o [] st av := by
  have he := run_equal_bool w T m n hT
  rcases hop with ⟨rfl, rfl⟩ | ⟨rfl, rfl⟩
  · refine goes_value (v := .bool (m == n)) hh ?_ rfl
    have : (binOp .eql T (.bool m) (.bool n)).run P w = .ok (.bool (m == n)) w := by
      show ((Op.equal T (.bool m) (.bool n)).bind fun x => Sem.pure (Value.bool x)).run P w = _
      rw [Sem.run_bind', he]; rfl
    simp only [execOp, ho, hx, hy, eqGuard_at_bool]
    simp [this]
  · refine goes_value (v := .bool (!(m == n))) hh ?_ rfl
    have : (binOp .neq T (.bool m) (.bool n)).run P w = .ok (.bool (!(m == n))) w := by
      show ((Op.equal T (.bool m) (.bool n)).bind fun x => Sem.pure (Value.bool (!x))).run P w = _
      rw [Sem.run_bind', he]; rfl
    simp only [execOp, ho, hx, hy, eqGuard_at_bool]
    simp [this]

theorem op_binA {op : BinOp} {T T' : TypeId} {x y : Operand} {k : EK} {u v : k.ty} (hh : HeapOK c e st w) (ho : o.op = .binOp op T x y T') (hm : P.eqGuardType P.depth T = false)
    (he : (Op.equalIn 10000 T (.agg (k.vals u).toArray) (.agg (k.vals v).toArray)).run P w = .ok (k.eqb u v) w)
    (hx : a.eval x = .agg (k.vals u).toArray) (hy : a.eval y = .agg (k.vals v).toArray) (hop : (op = .eql ∧ av = .b (k.eqb u v)) ∨ (op = .neq ∧ av = .b (!(k.eqb u v)))) : Goes P c st e a w o [] st av := by
  rcases hop with ⟨rfl, rfl⟩ | ⟨rfl, rfl⟩
  · refine goes_value (v := .bool (k.eqb u v)) hh ?_ rfl
    simp only [execOp, ho, hx, hy, Sem.run_bind, run_eqGuard_agg w .eql T x y _ _ hm, Result.andThen_ok, run_eql_struct, he]
    rfl
  · refine goes_value (v := .bool (!(k.eqb u v))) hh ?_ rfl
    simp only [execOp, ho, hx, hy, Sem.run_bind, run_eqGuard_agg w .neq T x y _ _ hm, Result.andThen_ok, run_neq_struct, he]
    rfl

theorem op_ifcNil {op : BinOp} {T T' : TypeId} {x y : Operand} {tp : TypeId} {v : Value} {ms : Array (String × TypeId)} (hh : HeapOK c e st w) (ho : o.op = .binOp op T x y T') (hT : P.underlying T = some (.interface ms))
    (hx : a.eval x = .iface tp v) (hy : a.eval y = .nilIface) (hop : (op = .eql ∧ av = .b false) ∨ (op = .neq ∧ av = .b true)) : Goes P c st e a w o [] st av := by
  have he : (Op.equal T (.iface tp v) .nilIface).run P w = .ok false w := by
    have h : ∀ d : Nat, (Op.equalIn (d + 1) T (.iface tp v) .nilIface).run P w = .ok false w := fun d => by simp [Op.equalIn, run_underlying hT]
    simp [Op.equal, Op.maxDepth, h 9999]
  rcases hop with ⟨rfl, rfl⟩ | ⟨rfl, rfl⟩
  · refine goes_value (v := .bool false) hh ?_ rfl
    have : (binOp .eql T (.iface tp v) .nilIface).run P w = .ok (.bool false) w := by
      show ((Op.equal T (.iface tp v) .nilIface).bind fun x => Sem.pure (Value.bool x)).run P w = _
      rw [Sem.run_bind', he]; rfl
    simp only [execOp, ho, hx, hy, eqGuard_at_iface]
    simp [this]
  · refine goes_value (v := .bool true) hh ?_ rfl
    have : (binOp .neq T (.iface tp v) .nilIface).run P w = .ok (.bool true) w := by
      show ((Op.equal T (.iface tp v) .nilIface).bind fun x => Sem.pure (Value.bool (!x))).run P w = _
      rw [Sem.run_bind', he]; rfl
    simp only [execOp, ho, hx, hy, eqGuard_at_iface]
    simp [this]
theorem op_nilNil {op : BinOp} {T T' : TypeId} {x : Operand} {u : Value} {ms : Array (String × TypeId)} (hh : HeapOK c e st w) (ho : o.op = .binOp op T x (.const u) T') (hT : P.underlying T = some (.interface ms))
    (hx : a.eval x = .nilIface) (hy : a.eval (.const u) = .nilIface) (hop : (op = .eql ∧ av = .b true) ∨ (op = .neq ∧ av = .b false)) : Goes P c st e a w o [] st av := by
  have he : (Op.equal T .nilIface .nilIface).run P w = .ok true w := by
    have h : ∀ d : Nat, (Op.equalIn (d + 1) T .nilIface .nilIface).run P w = .ok true w := fun d => by simp [Op.equalIn, run_underlying hT]
    simp [Op.equal, Op.maxDepth, h 9999]
  have hg : ∀ q : BinOp, (eqGuard q T x (.const u) .nilIface .nilIface).run P w = .ok () w := fun q => by unfold eqGuard; cases q <;> simp
  rcases hop with ⟨rfl, rfl⟩ | ⟨rfl, rfl⟩
  · refine goes_value (v := .bool true) hh ?_ rfl
    have : (binOp .eql T .nilIface .nilIface).run P w = .ok (.bool true) w := by
      show ((Op.equal T .nilIface .nilIface).bind fun x => Sem.pure (Value.bool x)).run P w = _
      rw [Sem.run_bind', he]; rfl
    simp only [execOp, ho, hx, hy]
    simp [hg, this]
  · refine goes_value (v := .bool false) hh ?_ rfl
    have : (binOp .neq T .nilIface .nilIface).run P w = .ok (.bool false) w := by
      show ((Op.equal T .nilIface .nilIface).bind fun x => Sem.pure (Value.bool (!x))).run P w = _
      rw [Sem.run_bind', he]; rfl
    simp only [execOp, ho, hx, hy]
    simp [hg, this]

theorem op_not {T : TypeId} {x : Operand} {m : Bool} (hh : HeapOK c e st w) (ho : o.op = .unOp .not T x) (hx : a.eval x = .bool m) : Goes P c st e a w o [] st (.b (!m)) :=
  goes_value (v := .bool (!m)) hh (by simp [execOp, ho, hx, Op.unary]) rfl
theorem op_neg {T : TypeId} {x : Operand} {k : IntKind} {m : Int} (hh : HeapOK c e st w) (ho : o.op = .unOp .neg T x) (hx : a.eval x = .int k m) : Goes P c st e a w o [] st (.i k (k.wrap (0 - m))) :=
  goes_value (v := .int k (k.wrap (0 - m))) hh (by simp [execOp, ho, hx, Op.unary, Op.intArith]) rfl

theorem op_convI {src dst : TypeId} {x : Operand} {k k' k'' : IntKind} {m : Int} (hh : HeapOK c e st w) (ho : o.op = .convert src dst x) (hs : P.underlying src = some (.int k')) (hd : P.underlying dst = some (.int k))
    (hx : a.eval x = .int k'' m) : Goes P c st e a w o [] st (.i k (k.wrap m)) :=
  goes_value (v := .int k (k.wrap m)) hh (by simp [execOp, ho, hx, convert, run_underlying hs, run_underlying hd, Conv.intToInt]) rfl
theorem op_convS {src dst : TypeId} {x : Operand} {m : ByteArray} (hh : HeapOK c e st w) (ho : o.op = .convert src dst x) (hs : P.underlying src = some .string) (hd : P.underlying dst = some .string)
    (hx : a.eval x = .string m) : Goes P c st e a w o [] st (.s m) :=
  goes_value (v := .string m) hh (by simp [execOp, ho, hx, convert, run_underlying hs, run_underlying hd]) rfl

theorem op_makeFunc {f : Nat} {first caps : Array Operand} {l : List AV} (hh : HeapOK c e st w) (ho : o.op = .makeFunc (.func f) first caps) (h0 : first.toList = []) (hl : RL st e l (caps.toList.map a.eval)) :
    Goes P c st e a w o [] st (.fn f l) := by
  have : first = #[] := Array.ext' (by simpa using h0)
  subst this
  refine goes_value (v := .func (.func f) #[] (caps.map a.eval)) hh (by simp [execOp, ho, Instr.makeFunc]) ⟨caps.toList.map a.eval, by congr 1; exact Array.ext' (by simp), hl⟩

theorem op_nilCheck {x : Operand} (hh : HeapOK c e st w) (ho : o.op = .nilCheck x) (hx : R st e av (a.eval x)) (hv : (∃ id off, av = .box id off) ∨ (∃ id ix sub, av = .elt id ix sub) ∨ ∃ f l, av = .fn f l) : Goes P c st e a w o [] st av := by
  refine goes_value (v := a.eval x) hh ?_ hx
  rcases hv with ⟨id, off, rfl⟩ | ⟨id, ix, sub, rfl⟩ | ⟨f, l, rfl⟩
  · obtain ⟨_, h⟩ := hx; simp [execOp, ho, h]
  · obtain ⟨r, _, _, p, n, cc, _, h⟩ := hx; simp [execOp, ho, h]
  · obtain ⟨vs, h, _⟩ := hx; simp [execOp, ho, h]

theorem op_makeIface {T : TypeId} {x : Operand} {av : AV} (hh : HeapOK c e st w) (ho : o.op = .makeInterface T x) (hT : P.concrete T = true) (hx : R st e av (a.eval x)) : Goes P c st e a w o [] st (.ifc T av) := by
  refine goes_value (v := .iface T (a.eval x)) hh ?_ ⟨_, rfl, hx⟩
  simp [execOp, ho, run_makeInterface w T _ hT]

theorem op_extract {t : Operand} {ix : Nat} {l : List AV} (hh : HeapOK c e st w) (ho : o.op = .extract t ix) (hx : R st e (.tup l) (a.eval t)) (hix : ix < l.length) : Goes P c st e a w o [] st (getK .any l ix) := by
  obtain ⟨vs, hv, hl⟩ := hx
  have hlen := RL_length hl
  have hg := RL_get hl ix
  refine goes_value (v := vs[ix]?.getD undef) hh ?_ hg
  have : vs[ix]? = some vs[ix] := List.getElem?_eq_getElem (by omega)
  simp [execOp, ho, hv, Instr.extract, this]

theorem op_indexS {T : TypeId} {x i : Operand} {s : ByteArray} {k : IntKind} {n : Int} (hh : HeapOK c e st w) (ho : o.op = .index T x i) (hT : P.underlying T = some .string) (hx : a.eval x = .string s) (hi : a.eval i = .int k n)
    (hn : 0 ≤ n ∧ n < s.size) : Goes P c st e a w o [] st (.i .u8 (byteAt s n.toNat)) := by
  obtain ⟨h0, h1⟩ := hn
  have hlt : n.toNat < s.size := by omega
  refine goes_value (v := .int .u8 (byteAt s n.toNat)) hh ?_ rfl
  have h2 : s[n.toNat]? = some s[n.toNat] := by simp [getElem?_pos, hlt]
  have h3 : byteAt s n.toNat = (s[n.toNat].toNat : Int) := by
    unfold byteAt
    have h4 : n.toNat < s.data.size := hlt
    rw [List.getD_eq_getElem?_getD, List.getElem?_eq_getElem (by simpa using h4)]
    simp; rfl
  simp [execOp, ho, hx, hi, Instr.index, asIntOf, run_underlying hT, h0, h2, h3]
end
end Go.X

namespace Go.X
open Go.RowKit

theorem mapK_eq {α β : Type} (f : α → β) (l : List α) : mapK f l = l.map f := by
  induction l with
  | nil => rfl
  | cons x l ih => simp [mapK, ih]
theorem takeK_eq {α : Type} (n : Nat) (l : List α) : takeK n l = l.take n := by
  induction l generalizing n with
  | nil => cases n <;> simp [takeK]
  | cons x l ih => cases n <;> simp [takeK, ih]
theorem dropK_eq {α : Type} (n : Nat) (l : List α) : dropK n l = l.drop n := by
  induction l generalizing n with
  | nil => cases n <;> simp [dropK]
  | cons x l ih => cases n <;> simp [dropK, ih]
theorem getK_eq {α : Type} (d : α) (l : List α) (n : Nat) : getK d l n = l[n]?.getD d := by
  induction l generalizing n with
  | nil => simp [getK]
  | cons x l ih => cases n <;> simp [getK, ih]

theorem RL_take {st : St} {e : Env} {l : List AV} {vs : List Value} (h : RL st e l vs) (n : Nat) : RL st e (takeK n l) (vs.take n) := by
  induction l generalizing vs n with
  | nil => simp only [RL] at h; subst h; cases n <;> simp [takeK, RL]
  | cons x l ih =>
    obtain ⟨v, vs', rfl, hx, hl⟩ := h
    cases n with
    | zero => simp [takeK, RL]
    | succ n => exact ⟨v, vs'.take n, by simp, hx, ih hl n⟩
theorem RL_drop {st : St} {e : Env} {l : List AV} {vs : List Value} (h : RL st e l vs) (n : Nat) : RL st e (dropK n l) (vs.drop n) := by
  induction l generalizing vs n with
  | nil => simp only [RL] at h; subst h; cases n <;> simp [dropK, RL]
  | cons x l ih =>
    obtain ⟨v, vs', rfl, hx, hl⟩ := h
    cases n with
    | zero => exact ⟨v, vs', rfl, hx, hl⟩
    | succ n => simpa [dropK] using ih hl n

section
variable {P : Program} {c : Ctx} {st : St} {e : Env} {a : Act} {w : World} {o : Oper} {av : AV}

theorem op_sliceS {T : TypeId} {x : Operand} {lo hi : Option Operand} {s : ByteArray} {l h : Nat} (hh : HeapOK c e st w) (ho : o.op = .slice T x lo hi none) (hT : P.underlying T = some .string) (hx : a.eval x = .string s)
    (hlo : match lo with | none => l = 0 | some y => ∃ k n, a.eval y = .int k n ∧ 0 ≤ n ∧ l = n.toNat) (hhi : match hi with | none => h = s.size | some y => ∃ k n, a.eval y = .int k n ∧ 0 ≤ n ∧ h = n.toNat) (h1 : l ≤ h) (h2 : h ≤ s.size) :
    Goes P c st e a w o [] st (.s (s.extract l h)) := by
  refine goes_value (v := .string (s.extract l h)) hh ?_ rfl
  cases lo <;> cases hi <;> simp only at hlo hhi
  · subst hlo; subst hhi
    simp [execOp, ho, hx, Instr.sliceAt, Instr.slice, run_underlying hT, Instr.sliceBounds]
  · obtain ⟨k, n, hn, h0, rfl⟩ := hhi
    subst hlo
    have h4 : n ≤ (s.size : Int) := by omega
    simp [execOp, ho, hx, hn, Instr.sliceAt, Instr.slice, run_underlying hT, Instr.sliceBounds, Instr.sliceBound, asIntOf, h0, h4]
  · obtain ⟨k, n, hn, h0, rfl⟩ := hlo
    subst hhi
    have h4 : n ≤ (s.size : Int) := by omega
    simp [execOp, ho, hx, hn, Instr.sliceAt, Instr.slice, run_underlying hT, Instr.sliceBounds, Instr.sliceBound, asIntOf, h0, h4]
  · obtain ⟨k, n, hn, h0, rfl⟩ := hlo
    obtain ⟨k', n', hn', h0', rfl⟩ := hhi
    have h4 : n' ≤ (s.size : Int) := by omega
    have h5 : n ≤ n' := by omega
    have h6 : max n' 0 = n' := by omega
    simp [execOp, ho, hx, hn, hn', Instr.sliceAt, Instr.slice, run_underlying hT, Instr.sliceBounds, Instr.sliceBound, asIntOf, h0, h4, h0', h5, h6]

theorem fields_get {fields : Array Field} {fs : List (Nat × TypeId)} (h : mapK (fun f => (f.offset, f.type)) fields.toList = fs) {f : Nat} (hf : f < fs.length) :
    ∃ fd, fields[f]? = some fd ∧ getK (0, 0) fs f = (fd.offset, fd.type) := by
  subst h
  rw [mapK_eq] at hf ⊢
  have hf' : f < fields.size := by simpa using hf
  refine ⟨fields[f], by simp [hf'], ?_⟩
  rw [getK_eq]
  simp [hf']

theorem op_fieldAddr {T : TypeId} {x : Operand} {f oo ft : Nat} {fs : List (Nat × TypeId)} {d : TD} {fields : Array Field} (hh : HeapOK c e st w) (ho : o.op = .fieldAddr T x f) (hT : P.underlying T = some (.struct fields))
    (hfs : mapK (fun f => (f.offset, f.type)) fields.toList = fs) (hf : f < fs.length) (hg : getK (0, 0) fs f = (oo, ft)) (hd : TDOK P ft d) (h0 : d.size ≠ 0)
    (hx : (∃ id off, R st e (.box id off) (a.eval x) ∧ av = .box id (off + oo)) ∨ (∃ id ix sub, R st e (.elt id ix sub) (a.eval x) ∧ av = .elt id ix (sub + oo))) : Goes P c st e a w o [] st av := by
  obtain ⟨fd, h1, h2⟩ := fields_get hfs hf
  rw [hg] at h2
  obtain ⟨rfl, rfl⟩ : oo = fd.offset ∧ ft = fd.type := by simpa using h2
  have hs := run_size (w := w) hd
  have key : ∀ p : Addr, a.eval x = .pointer (some p) → (execOp a.eval o).run P w = .ok (.value (.pointer (some (p.add fd.offset)))) w := fun p hp => by
    simp [execOp, ho, hp, Instr.fieldAt, run_underlying hT, h1, Instr.sureAddr, fieldPlace, hs, h0]
  rcases hx with ⟨id, off, ⟨hb, hp⟩, rfl⟩ | ⟨id, ix, sub, ⟨r, hr, hix, p, n, cc, hv, hp⟩, rfl⟩
  · exact goes_value hh (key _ hp) ⟨hb, by rw [Addr.add_lit]⟩
  · refine goes_value hh (key _ hp) ⟨r, hr, hix, p, n, cc, hv, ?_⟩
    have : (p.add (ix * r.k.size + sub)).add fd.offset = p.add (ix * r.k.size + (sub + fd.offset)) := by
      unfold Addr.add
      by_cases h1 : ix * r.k.size + sub = 0 <;> by_cases h2 : fd.offset = 0 <;> simp [h1, h2] <;> (try split) <;> (try simp) <;> omega
    rw [this]

theorem part_run {T : TypeId} {d : TD} (hd : TDOK P T d) (vs : List Value) (off : Nat) :
    (part T vs.toArray off).run P w = if d.k.isAgg then .ok (.agg ((vs.drop off).take d.size).toArray) w else (match vs[off]? with | some v => .ok v w | none => (part T vs.toArray off).run P w) := by
  have h1 := underlying_agg (w := w) hd
  have h2 := run_size (w := w) hd
  cases hk : d.k.isAgg
  · rw [hk] at h1
    simp only [Bool.false_eq_true, if_false]
    cases hv : vs[off]? with
    | none => rfl
    | some v => simp [part, h1, hv]
  · rw [hk] at h1
    simp [part, h1, h2]

theorem op_field {T : TypeId} {x : Operand} {f oo ft : Nat} {fs : List (Nat × TypeId)} {d : TD} {fields : Array Field} {l : List AV} (hh : HeapOK c e st w) (ho : o.op = .field T x f) (hT : P.underlying T = some (.struct fields))
    (hfs : mapK (fun f => (f.offset, f.type)) fields.toList = fs) (hf : f < fs.length) (hg : getK (0, 0) fs f = (oo, ft)) (hd : TDOK P ft d)
    (hx : R st e (.agg l) (a.eval x)) (hav : (d.k.isAgg = true ∧ oo + d.size ≤ l.length ∧ av = .agg (takeK d.size (dropK oo l))) ∨ (d.k.isAgg = false ∧ oo < l.length ∧ av = getK .any l oo)) : Goes P c st e a w o [] st av := by
  obtain ⟨fd, h1, h2⟩ := fields_get hfs hf
  rw [hg] at h2
  obtain ⟨rfl, rfl⟩ : oo = fd.offset ∧ ft = fd.type := by simpa using h2
  obtain ⟨vs, hv, hl⟩ := hx
  have hp := part_run (w := w) hd vs fd.offset
  rcases hav with ⟨hk, hlen, rfl⟩ | ⟨hk, hlen, rfl⟩
  · rw [hk, if_pos rfl] at hp
    refine goes_value (v := .agg ((vs.drop fd.offset).take d.size).toArray) hh ?_ ⟨_, rfl, RL_take (RL_drop hl _) _⟩
    simp [execOp, ho, hv, Instr.field, run_underlying hT, h1, asAgg, hp]
  · have hlen' := RL_length hl
    have hvs : vs[fd.offset]? = some vs[fd.offset] := List.getElem?_eq_getElem (by omega)
    rw [hk] at hp
    simp only [Bool.false_eq_true, if_false, hvs] at hp
    refine goes_value (v := vs[fd.offset]) hh ?_ ?_
    · simp [execOp, ho, hv, Instr.field, run_underlying hT, h1, asAgg, hp]
    · have := RL_get hl fd.offset
      rwa [hvs] at this

theorem RL_vals (st : St) (e : Env) (k : EK) (x : k.ty) : RL st e (k.av x) (k.vals x) := by
  induction k with
  | int k => exact ⟨_, _, rfl, rfl, rfl⟩
  | bool => exact ⟨_, _, rfl, rfl, rfl⟩
  | str => exact ⟨_, _, rfl, rfl, rfl⟩
  | byte => exact ⟨_, _, rfl, rfl, rfl⟩
  | pair a b ha hb => exact RL_append (ha _) (hb _)
theorem vals_length (k : EK) (x : k.ty) : (k.vals x).length = k.size := by
  induction k with
  | pair a b ha hb => simp [EK.vals, EK.size, ha, hb]
  | _ => rfl
theorem vals_one (k : EK) (x : k.ty) : ∀ v ∈ k.vals x, v.oneCell' = true := by
  induction k with
  | pair a b ha hb => intro v hv; simp [EK.vals] at hv; rcases hv with h | h; exact ha _ v h; exact hb _ v h
  | _ => intro v hv; simp [EK.vals] at hv; subst hv; rfl
theorem size_pos (k : EK) : 0 < k.size := by
  induction k with
  | pair a b ha hb => simp [EK.size]; omega
  | _ => simp [EK.size]
theorem valsOf_length (k : EK) (l : List k.ty) : (valsOf k l).length = l.length * k.size := by
  induction l with
  | nil => simp [valsOf]
  | cons x l ih => simp only [valsOf, List.flatMap_cons, List.length_append, List.length_cons] at *; rw [ih, vals_length, Nat.add_mul]; omega
theorem valsOf_get (k : EK) (l : List k.ty) (ix j : Nat) (hj : j < k.size) : (valsOf k l)[ix * k.size + j]? = (l[ix]?).bind fun x => (k.vals x)[j]? := by
  induction l generalizing ix with
  | nil => simp [valsOf]
  | cons x l ih =>
    simp only [valsOf, List.flatMap_cons] at *
    cases ix with
    | zero => rw [List.getElem?_append_left (by rw [vals_length]; omega)]; simp
    | succ ix =>
      rw [List.getElem?_append_right (by rw [vals_length, Nat.add_mul]; omega), vals_length]
      have : (ix + 1) * k.size + j - k.size = ix * k.size + j := by rw [Nat.add_mul]; omega
      rw [this, ih]; simp

theorem Frame.cell {c : Ctx} {M : Nat → Prop} {w : World} (h : Frame c w) {p : Addr} (h1 : Fixed c M p.block) : w.cell? p = c.w0.cell? p := World.cell?_of_block (h.block _ h1.1 h1.2.1)
theorem row_elem {id : Nat} {r : Row} (hh : HeapOK c e st w) (hr : getK none st.rows id = some r) {ix : Nat} (hix : ix < r.l.length) {p : Addr} {n cc : Nat} (hv : e.ρ id = .slice (some p) n cc) :
    ∀ j, j < r.k.size → w.cell? (p.add (ix * r.k.size + j)) = (r.k.vals (r.l.getD ix r.k.dflt))[j]? := by
  intro j hj
  obtain ⟨hpos, h⟩ := hh.row id r hr
  have hx : r.l[ix]? = some r.l[ix] := List.getElem?_eq_getElem hix
  have hd : r.l.getD ix r.k.dflt = r.l[ix] := by simp [List.getD_eq_getElem?_getD, hx]
  have hval : (valsOf r.k r.l)[ix * r.k.size + j]? = (r.k.vals (r.l.getD ix r.k.dflt))[j]? := by rw [valsOf_get _ _ _ _ hj, hx, hd]; rfl
  have hlt : j < (r.k.vals (r.l.getD ix r.k.dflt)).length := by rw [vals_length]; exact hj
  have hsome := List.getElem?_eq_getElem hlt
  cases ho : r.own
  · rw [ho] at h
    obtain ⟨q, cap, hq, _, _, hc⟩ := h
    rw [hv] at hq
    obtain ⟨b, hb, h1, h3⟩ := hc (ix * r.k.size + j) _ (hval.trans hsome)
    simp at hq
    obtain ⟨rfl, rfl, rfl⟩ := hq
    obtain rfl : p = b := by simpa using hb
    have hbl : (p.add (ix * r.k.size + j)).block = p.block := by unfold Addr.add; split <;> rfl
    rw [hh.frame.cell (M := e.M) (by rw [hbl]; exact h1), h3, hsome]
  · rw [ho] at h
    obtain ⟨hown, _⟩ := h
    rcases hown with ⟨h1, _⟩ | ⟨g, cap, cur, fz, h1, hgg, _, hnc, _, hcs, htake⟩
    · rw [hv] at h1; simp at h1
    · rw [hv] at h1
      simp at h1
      obtain ⟨rfl, _⟩ := h1
      have h2 := hval.trans hsome
      rw [← htake, List.getElem?_take] at h2
      split at h2
      · rw [Addr.add_lit, cell_of_row w _ _ _ _ _ hgg, Nat.zero_add, ← Array.getElem?_toList, h2, hsome]
      · cases h2

theorem run_loadVar {T : TypeId} {d : TD} (hd : TDOK P T d) {p : Addr} {vs : List Value} (hc : ∀ j, j < d.size → w.cell? (p.add j) = vs[j]?) (hlen : vs.length = d.size) :
    (d.k.isAgg = true → (loadVar T p).run P w = .ok (.agg vs.toArray) w) ∧ (d.k.isAgg = false → ∀ v, vs[0]? = some v → 0 < d.size → (loadVar T p).run P w = .ok v w) := by
  have h1 := underlying_agg (w := w) hd
  have h2 := run_size (w := w) hd
  constructor
  · intro hk
    rw [hk] at h1
    have h3 := run_loadCells_list (P := P) (w := w) p vs (fun j v hj => by
      have : j < vs.length := by rcases Nat.lt_or_ge j vs.length with h | h; exact h; rw [List.getElem?_eq_none h] at hj; cases hj
      rw [hc j (by omega), hj])
    simp [loadVar, h1, h2, ← hlen, h3]
  · intro hk v hv hz
    rw [hk] at h1
    have := hc 0 hz
    rw [Addr.add_zero', hv] at this
    simp [loadVar, h1, this]

theorem op_load_box {T : TypeId} {x : Operand} {id off : Nat} {bx : Box} {d : TD} (hh : HeapOK c e st w) (ho : o.op = .load T x) (hd : TDOK P T d) (hb : getK none st.boxes id = some bx)
    (hx : R st e (.box id off) (a.eval x)) (hav : (d.k.isAgg = true ∧ off + d.size ≤ bx.cells.length ∧ av = .agg (takeK d.size (dropK off bx.cells))) ∨ (d.k.isAgg = false ∧ off < bx.cells.length ∧ av = getK .any bx.cells off)) :
    Goes P c st e a w o [] st av := by
  obtain ⟨_, hv⟩ := hx
  obtain ⟨⟨vs, hheap, hl, hone⟩, _⟩ := hh.box id bx hb
  have hlen := RL_length hl
  have hcell : ∀ j, w.cell? ⟨e.β id, j, none⟩ = vs[j]? := fun j => by rw [cell_of_row w _ _ _ _ _ hheap]; simp
  rcases hav with ⟨hk, hlen', rfl⟩ | ⟨hk, hlen', rfl⟩
  · have := (run_loadVar (w := w) hd (p := ⟨e.β id, off, none⟩) (vs := (vs.drop off).take d.size) (fun j hj => by
      rw [Addr.add_lit, hcell, List.getElem?_take, if_pos hj, List.getElem?_drop]) (by simp; omega)).1 hk
    refine goes_value (v := .agg ((vs.drop off).take d.size).toArray) hh ?_ ⟨_, rfl, RL_take (RL_drop hl _) _⟩
    simp [execOp, ho, hv, Instr.loadAt, Instr.sureAddr, this]
  · have hvs : vs[off]? = some vs[off] := List.getElem?_eq_getElem (by omega)
    have h1 := underlying_agg (w := w) hd
    rw [hk] at h1
    have hc := hcell off
    rw [hvs] at hc
    refine goes_value (v := vs[off]) hh ?_ ?_
    · simp [execOp, ho, hv, Instr.loadAt, Instr.sureAddr, loadVar, h1, hc]
    · have := RL_get hl off
      rwa [hvs] at this

theorem op_load_elt {T : TypeId} {x : Operand} {id ix sub : Nat} {r : Row} {d : TD} (hh : HeapOK c e st w) (ho : o.op = .load T x) (hd : TDOK P T d) (hr : getK none st.rows id = some r)
    (hx : R st e (.elt id ix sub) (a.eval x)) (hav : (d.k.isAgg = true ∧ sub + d.size ≤ r.k.size ∧ av = .agg (takeK d.size (dropK sub (r.cells ix)))) ∨ (d.k.isAgg = false ∧ sub < r.k.size ∧ av = getK .any (r.cells ix) sub)) :
    Goes P c st e a w o [] st av := by
  obtain ⟨r', hr', hix, p, n, cc, hρ, hv⟩ := hx
  rw [hr] at hr'; cases hr'
  have hcell := row_elem hh hr hix hρ
  have hl : RL st e (r.cells ix) (r.k.vals (r.l.getD ix r.k.dflt)) := RL_vals st e _ _
  have hlen := vals_length r.k (r.l.getD ix r.k.dflt)
  have hadd : ∀ j, (p.add (ix * r.k.size + sub)).add j = p.add (ix * r.k.size + (sub + j)) := fun j => by
    unfold Addr.add
    by_cases h1 : ix * r.k.size + sub = 0 <;> by_cases h2 : j = 0 <;> simp [h1, h2] <;> (try split) <;> (try simp) <;> omega
  rcases hav with ⟨hk, hlen', rfl⟩ | ⟨hk, hlen', rfl⟩
  · have := (run_loadVar (w := w) hd (p := p.add (ix * r.k.size + sub)) (vs := ((r.k.vals (r.l.getD ix r.k.dflt)).drop sub).take d.size) (fun j hj => by
      rw [hadd, hcell _ (by omega), List.getElem?_take, if_pos hj, List.getElem?_drop]) (by rw [List.length_take, List.length_drop]; omega)).1 hk
    refine goes_value (v := .agg (((r.k.vals (r.l.getD ix r.k.dflt)).drop sub).take d.size).toArray) hh ?_ ⟨_, rfl, RL_take (RL_drop hl _) _⟩
    simp only [execOp, ho, hv, Instr.loadAt, Instr.sureAddr]
    simp [this]
  · have hvs : (r.k.vals (r.l.getD ix r.k.dflt))[sub]? = some (r.k.vals (r.l.getD ix r.k.dflt))[sub] := List.getElem?_eq_getElem (by omega)
    have h1 := underlying_agg (w := w) hd
    rw [hk] at h1
    have hc := hcell sub hlen'
    rw [hvs] at hc
    refine goes_value (v := (r.k.vals (r.l.getD ix r.k.dflt))[sub]) hh ?_ ?_
    · simp only [execOp, ho, hv, Instr.loadAt, Instr.sureAddr]
      simp [loadVar, h1, hc]
    · have := RL_get hl sub
      rwa [hvs] at this

theorem op_indexAddr {T E : TypeId} {x i : Operand} {id : Nat} {r : Row} {d : TD} {k : IntKind} {n : Int} (hh : HeapOK c e st w) (ho : o.op = .indexAddr T x i) (hT : P.underlying T = some (.slice E)) (hd : TDOK P E d) (hr : getK none st.rows id = some r)
    (hs : d.size = r.k.size) (hx : R st e (.row id) (a.eval x)) (hi : a.eval i = .int k n) (hn : 0 ≤ n ∧ n < r.l.length) : Goes P c st e a w o [] st (.elt id n.toNat 0) := by
  obtain ⟨_, hv⟩ := hx
  obtain ⟨hpos, h⟩ := hh.row id r hr
  have hix : n.toNat < r.l.length := by omega
  have hshape : ∃ p cc, e.ρ id = .slice (some p) r.l.length cc := by
    cases hown : r.own
    · rw [hown] at h
      obtain ⟨q, cap, hq, _, _, hc⟩ := h
      have hlt : n.toNat * r.k.size < (valsOf r.k r.l).length := by rw [valsOf_length]; exact Nat.mul_lt_mul_of_pos_right hix hpos
      obtain ⟨b, rfl, _⟩ := hc _ _ (List.getElem?_eq_getElem hlt)
      exact ⟨b, cap, hq⟩
    · rw [hown] at h
      rcases h.1 with ⟨_, h0⟩ | ⟨g, cap, cur, fz, h1, _⟩
      · rw [h0] at hix; simp at hix
      · exact ⟨_, cap, h1⟩
  obtain ⟨p, cc, hρ⟩ := hshape
  have h2 := run_size (w := w) hd
  refine goes_value (v := .pointer (some (p.add (n.toNat * d.size)))) hh ?_ ⟨r, hr, hix, p, _, cc, hρ, by rw [hs]; rfl⟩
  rw [hρ] at hv
  simp [execOp, ho, hv, hi, Instr.indexAt, asIntOf, run_underlying hT, hn.1, hn.2, h2]

theorem addr_add_add (p : Addr) (m n : Nat) : (p.add m).add n = p.add (m + n) := by
  unfold Addr.add
  by_cases h1 : m = 0 <;> by_cases h2 : n = 0 <;> simp [h1, h2] <;> (try split) <;> (try simp) <;> omega

theorem op_indexView {T E : TypeId} {x i : Operand} {id lo hi : Nat} {ex : Bool} {r : Row} {d : TD} {k : IntKind} {n : Int} (hh : HeapOK c e st w) (ho : o.op = .indexAddr T x i) (hT : P.underlying T = some (.slice E)) (hd : TDOK P E d) (hr : getK none st.rows id = some r)
    (hs : d.size = r.k.size) (hx : R st e (.view id lo hi ex) (a.eval x)) (hi' : a.eval i = .int k n) (hn : 0 ≤ n ∧ n < (hi - lo : Nat)) : Goes P c st e a w o [] st (.elt id (lo + n.toNat) 0) := by
  obtain ⟨r', hr', h3, h4, p, m, cc, p', c', hρ, hv, h7, _⟩ := hx
  rw [hr] at hr'; cases hr'
  obtain ⟨p0, rfl, rfl⟩ := h7 (by omega)
  have h2 := run_size (w := w) hd
  refine goes_value (v := .pointer (some (p0.add ((lo + n.toNat) * d.size)))) hh ?_ ⟨r, hr, by omega, p0, _, cc, hρ, by rw [hs]; rfl⟩
  have h5 : n < ((hi : Int) - lo) := by omega
  simp [execOp, ho, hv, hi', Instr.indexAt, asIntOf, run_underlying hT, hn.1, hn.2, h2]
  rw [addr_add_add, hs, Nat.add_mul]

theorem op_indexArrp {T E m : TypeId} {x i : Operand} {id : Nat} {r : Row} {d : TD} {k : IntKind} {n : Int} (hh : HeapOK c e st w) (ho : o.op = .indexAddr T x i) (hT : P.underlying T = some (.array m E)) (hd : TDOK P E d) (hr : getK none st.rows id = some r)
    (hs : d.size = r.k.size) (hx : R st e (.arrp id) (a.eval x)) (hi' : a.eval i = .int k n) (hn : 0 ≤ n ∧ n < r.l.length ∧ r.l.length = m) : Goes P c st e a w o [] st (.elt id n.toNat 0) := by
  obtain ⟨r', hr', g, nn, cc, hρ, hv⟩ := hx
  rw [hr] at hr'; cases hr'
  have h2 := run_size (w := w) hd
  refine goes_value (v := .pointer (some ((⟨g, 0, none⟩ : Addr).add (n.toNat * d.size)))) hh ?_ ⟨r, hr, by omega, ⟨g, 0, none⟩, _, cc, hρ, by rw [hs]; rfl⟩
  have h5 : n < (m : Int) := by omega
  simp [execOp, ho, hv, hi', Instr.indexAt, asIntOf, run_underlying hT, hn.1, h5, h2, Instr.sureAddr]

theorem op_indexBox {T E m : TypeId} {x i : Operand} {id off : Nat} {bx : Box} {d : TD} {k : IntKind} {n : Int} (hh : HeapOK c e st w) (ho : o.op = .indexAddr T x i) (hT : P.underlying T = some (.array m E)) (hd : TDOK P E d) (hb : getK none st.boxes id = some bx)
    (hx : R st e (.box id off) (a.eval x)) (hi' : a.eval i = .int k n) (hn : 0 ≤ n ∧ n < m) : Goes P c st e a w o [] st (.box id (off + n.toNat * d.size)) := by
  obtain ⟨_, hv⟩ := hx
  have h2 := run_size (w := w) hd
  refine goes_value (v := .pointer (some ((⟨e.β id, off, none⟩ : Addr).add (n.toNat * d.size)))) hh ?_ ⟨⟨bx, hb⟩, by rw [Addr.add_lit]⟩
  simp [execOp, ho, hv, hi', Instr.indexAt, asIntOf, run_underlying hT, hn.1, hn.2, h2, Instr.sureAddr]
theorem op_sliceRow {T E : TypeId} {x : Operand} {lo hi mx : Option Operand} {id l h : Nat} {m : Option Nat} {r : Row} {d : TD} (hh : HeapOK c e st w) (ho : o.op = .slice T x lo hi mx) (hT : P.underlying T = some (.slice E)) (hd : TDOK P E d) (hr : getK none st.rows id = some r)
    (hs : d.size = r.k.size) (hx : R st e (.row id) (a.eval x)) (hsl : ∃ p cc, e.ρ id = .slice p r.l.length cc ∧ r.l.length ≤ cc ∧ (0 < r.l.length → ∃ q, p = some q) ∧ (p = none → cc = 0))
    (hlo : match lo with | none => l = 0 | some y => ∃ k n, a.eval y = .int k n ∧ 0 ≤ n ∧ l = n.toNat) (hhi : match hi with | none => h = r.l.length | some y => ∃ k n, a.eval y = .int k n ∧ 0 ≤ n ∧ h = n.toNat)
    (hmx : match mx with | none => m = none | some y => ∃ k n, a.eval y = .int k n ∧ 0 ≤ n ∧ m = some n.toNat ∧ n ≤ r.l.length ∧ h ≤ n.toNat ∧ hi.isSome = true) (h1 : l ≤ h) (h2 : h ≤ r.l.length) :
    Goes P c st e a w o [] st (.view id l h m.isNone) := by
  obtain ⟨_, hv⟩ := hx
  obtain ⟨p, cc, hρ, hcc, hp, hp0⟩ := hsl
  have hz := run_size (w := w) hd
  have hzpos := size_pos r.k
  rw [hρ] at hv
  have key : ∀ M : Nat, M = (m.getD cc) → (execOp a.eval o).run P w = .ok (.value (.slice (if M = l then p else p.map (·.add (l * d.size))) (h - l) (M - l))) w → Goes P c st e a w o [] st (.view id l h m.isNone) := by
    intro M hM hrun
    have hhM : h ≤ M := by
      cases mx with
      | none => simp only at hmx; subst hmx; simp at hM; omega
      | some y => obtain ⟨k, n, _, _, rfl, _, h5, _⟩ := hmx; simp at hM; omega
    refine goes_value hh hrun ⟨r, hr, h1, h2, p, _, cc, _, M - l, hρ, rfl, ?_, ?_, ?_, by omega⟩
    · intro hlt
      obtain ⟨q, rfl⟩ := hp (by omega)
      refine ⟨q, rfl, ?_⟩
      rw [if_neg (by omega), hs]; rfl
    · intro hl0 hex
      subst hl0
      cases m with
      | some _ => cases hex
      | none =>
        simp at hM
        subst hM
        refine ⟨?_, by omega⟩
        split
        · rfl
        · cases p <;> simp [Addr.add_zero']
    · intro hnone
      have : p = none := by split at hnone; exact hnone; cases p <;> simp_all
      have := hp0 this
      cases mx with
      | none => simp only at hmx; subst hmx; simp at hM; omega
      | some y =>
        obtain ⟨k, n, _, _, rfl, h6, _, _⟩ := hmx
        simp at hM
        omega
  cases mx with
  | none =>
    simp only at hmx
    subst hmx
    refine key cc rfl ?_
    cases lo <;> cases hi <;> simp only at hlo hhi
    · subst hlo; subst hhi
      simp [execOp, ho, hv, Instr.sliceAt, Instr.slice, run_underlying hT, Instr.sliceBounds, hz]
    · obtain ⟨k, n, hn, h0, rfl⟩ := hhi
      subst hlo
      have h4 : n ≤ (cc : Int) := by omega
      simp [execOp, ho, hv, hn, Instr.sliceAt, Instr.slice, run_underlying hT, Instr.sliceBounds, Instr.sliceBound, asIntOf, h0, h4, hz]
    · obtain ⟨k, n, hn, h0, rfl⟩ := hlo
      subst hhi
      have h4 : n ≤ (r.l.length : Int) := by omega
      simp [execOp, ho, hv, hn, Instr.sliceAt, Instr.slice, run_underlying hT, Instr.sliceBounds, Instr.sliceBound, asIntOf, h0, h4, hz]
    · obtain ⟨k, n, hn, h0, rfl⟩ := hlo
      obtain ⟨k', n', hn', h0', rfl⟩ := hhi
      have h4 : n' ≤ (cc : Int) := by omega
      have h5 : n ≤ n' := by omega
      have h6 : max n' 0 = n' := by omega
      simp [execOp, ho, hv, hn, hn', Instr.sliceAt, Instr.slice, run_underlying hT, Instr.sliceBounds, Instr.sliceBound, asIntOf, h0, h4, h0', h5, h6, hz]
  | some y =>
    obtain ⟨km, nm, hnm, h0m, rfl, hmle, hhm, his⟩ := hmx
    refine key nm.toNat rfl ?_
    cases hi with
    | none => cases his
    | some z =>
      obtain ⟨k', n', hn', h0', rfl⟩ := hhi
      have h4 : nm ≤ (cc : Int) := by omega
      have h5 : n' ≤ nm := by omega
      have h7 : max nm 0 = nm := by omega
      have h8 : max n' 0 = n' := by omega
      cases lo <;> simp only at hlo
      · subst hlo
        simp [execOp, ho, hv, hnm, hn', Instr.sliceAt, Instr.slice, run_underlying hT, Instr.sliceBounds, Instr.sliceBound, asIntOf, h0m, h4, h0', h5, h7, hz]
      · obtain ⟨k, n, hn, h0, rfl⟩ := hlo
        have h9 : n ≤ n' := by omega
        simp [execOp, ho, hv, hn, hnm, hn', Instr.sliceAt, Instr.slice, run_underlying hT, Instr.sliceBounds, Instr.sliceBound, asIntOf, h0, h0m, h4, h0', h5, h7, h8, h9, hz]
end
end Go.X

namespace Go.X
open Go.RowKit

section
variable {P : Program} {c : Ctx} {st : St} {e : Env} {a : Act} {w w' : World} {o : Oper} {av : AV}

theorem HeapOK.box_lt (hh : HeapOK c e st w) {id : Nat} {bx : Box} (h : getK none st.boxes id = some bx) : e.β id < w.heap.size := by
  obtain ⟨⟨vs, h1, _⟩, _⟩ := hh.box id bx h
  exact (Array.getElem?_eq_some_iff.1 h1).1

theorem HeapOK.row_lt (hh : HeapOK c e st w) {id : Nat} {r : Row} (h : getK none st.rows id = some r) (ho : r.own = true) {g : Nat} (hg : (e.ρ id).ownBlock = some g) : Mine c e.M g ∧ g < w.heap.size := by
  obtain ⟨_, h1⟩ := hh.row id r h
  rw [ho] at h1
  refine ⟨h1.2 g hg, ?_⟩
  rcases h1.1 with ⟨hn, _⟩ | ⟨g', cap, cur, fz, hv, hgg, _⟩
  · rw [hn] at hg; cases hg
  · rw [hv] at hg; simp [Value.ownBlock] at hg; subst hg; exact (Array.getElem?_eq_some_iff.1 hgg).1

theorem HeapOK.base_le (hh : HeapOK c e st w) : c.base ≤ w.heap.size := by rw [c.size]; exact hh.frame.size

theorem Frame.moved (h : Frame c w) (hb : Below w.heap.size w w') : Frame c w' :=
  ⟨hb.os.trans h.os, hb.tape.trans h.tape, hb.output.trans h.output, Nat.le_trans h.size hb.size, fun k h1 h2 => (hb.block k (by have := h.size; rw [c.size] at h1; omega)).trans (h.block k h1 h2)⟩
structure Turns (w w' : World) (g : Nat) : Prop where
  os : w'.os = w.os
  tape : w'.tape = w.tape
  output : w'.output = w.output
  size : w.heap.size ≤ w'.heap.size
  block : ∀ k, k < w.heap.size → k ≠ g → w'.heap[k]? = w.heap[k]?
theorem HeapOK.m_lt (hh : HeapOK c e st w) {k : Nat} (h : e.M k) : k < w.heap.size := c.Jlt _ _ _ hh.out k h
theorem HeapOK.new_m (hh : HeapOK c e st w) {k : Nat} (h : w.heap.size ≤ k) : Mine c e.M k := ⟨.inl (by have := hh.frame.size; have := c.size; omega), fun hm => by have := hh.m_lt hm; omega⟩
theorem lt_of_heap {k : Nat} {o : Obj} (h : w.heap[k]? = some o) : k < w.heap.size := (Array.getElem?_eq_some_iff.1 h).1
theorem Below.out (hh : HeapOK c e st w) (hb : Below w.heap.size w w') : c.J st.ys e.M w' := c.Jst _ _ _ _ hh.out hb.os hb.tape hb.output hb.size fun k hk => hb.block k (hh.m_lt hk)
theorem Below.defd (hh : HeapOK c e st w) (hb : Below w.heap.size w w') : ∀ D ∈ e.D, w'.heap[D]? = some (.deferred (some [])) := fun D hD => (hb.block D (lt_of_heap (hh.defd D hD))).trans (hh.defd D hD)
theorem Turns.frame {g : Nat} (ht : Turns w w' g) (hg : Mine c e.M g) (h : Frame c w) : Frame c w' :=
  ⟨ht.os.trans h.os, ht.tape.trans h.tape, ht.output.trans h.output, Nat.le_trans h.size ht.size, fun k h1 h2 => (ht.block k (by have := h.size; rw [c.size] at h1; omega) (fun hk => by subst hk; rcases hg.1 with h3 | h3; omega; exact h2 h3)).trans (h.block k h1 h2)⟩
theorem Turns.out {g : Nat} (ht : Turns w w' g) (hg : Mine c e.M g) (hh : HeapOK c e st w) : c.J st.ys e.M w' := c.Jst _ _ _ _ hh.out ht.os ht.tape ht.output ht.size fun k hk => ht.block k (hh.m_lt hk) (fun h => hg.2 (h ▸ hk))
theorem Turns.defd {g : Nat} {cs : Array Value} {T : TypeId} {fz : Nat × Nat} (ht : Turns w w' g) (hh : HeapOK c e st w) (hc : w.heap[g]? = some (.cells cs T fz)) : ∀ D ∈ e.D, w'.heap[D]? = some (.deferred (some [])) := fun D hD =>
  (ht.block D (lt_of_heap (hh.defd D hD)) (fun h => by subst h; rw [hh.defd _ hD] at hc; cases hc)).trans (hh.defd D hD)

theorem Owns.moved {T : TypeId} {k : EK} {v : Value} {l : List k.ty} (h : Owns w T k v l) (hb : Below w.heap.size w w') : Owns w' T k v l := by
  rcases h with hn | ⟨g, cap, cur, fz, rfl, hgg, rest⟩
  · exact .inl hn
  · exact .inr ⟨g, cap, cur, fz, rfl, (hb.block g (Array.getElem?_eq_some_iff.1 hgg).1).trans hgg, rest⟩
theorem Owns.same {T : TypeId} {k : EK} {v : Value} {l : List k.ty} (h : Owns w T k v l) (hb : ∀ g, v.ownBlock = some g → g < w.heap.size → w'.heap[g]? = w.heap[g]?) : Owns w' T k v l := by
  rcases h with hn | ⟨g, cap, cur, fz, rfl, hgg, rest⟩
  · exact .inl hn
  · exact .inr ⟨g, cap, cur, fz, rfl, (hb g rfl (Array.getElem?_eq_some_iff.1 hgg).1).trans hgg, rest⟩
theorem Owns.lt {T : TypeId} {k : EK} {v : Value} {l : List k.ty} (h : Owns w T k v l) {g : Nat} (hg : v.ownBlock = some g) : g < w.heap.size ∧ ∃ cs T fz, w.heap[g]? = some (.cells cs T fz) := by
  rcases h with ⟨rfl, _⟩ | ⟨g, cap, cur, fz, rfl, hgg, rest⟩
  · cases hg
  · simp [Value.ownBlock] at hg; subst hg; exact ⟨(Array.getElem?_eq_some_iff.1 hgg).1, _, _, _, hgg⟩
theorem Owns.of_row {b : Nat} {T : TypeId} {k : EK} {v : Value} {l : List k.ty} (hk : k ≠ .byte) (h : w.ownsRow b T k.size v l.length (valsOf k l)) : Owns w T k v l := by
  rcases h.2 with ⟨h1, h2⟩ | ⟨g, cap, cur, h1, _, h3, h4, h5, h6, h7⟩
  · exact .inl ⟨h1, List.eq_nil_of_length_eq_zero h2⟩
  · exact .inr ⟨g, cap, cur, (0, 0), h1, h3, by unfold FZ; cases k <;> first | rfl | exact absurd rfl hk, h4, h5, h6, h7⟩
theorem Owns.to_row {T : TypeId} {k : EK} {v : Value} {l : List k.ty} (hk : k ≠ .byte) (h : Owns w T k v l) : w.ownsRow 0 T k.size v l.length (valsOf k l) := by
  refine ⟨valsOf_length k l, ?_⟩
  rcases h with ⟨h1, h2⟩ | ⟨g, cap, cur, fz, h1, h3, hf, h4, h5, h6, h7⟩
  · exact .inl ⟨h1, by rw [h2]; rfl⟩
  · have : fz = (0, 0) := by unfold FZ at hf; cases k <;> first | exact hf | exact absurd rfl hk
    subst this
    exact .inr ⟨g, cap, cur, h1, Nat.zero_le _, h3, h4, h5, h6, h7⟩
theorem HeapOK.moved (hh : HeapOK c e st w) (hb : Below w.heap.size w w') : HeapOK c e st w' where
  frame := hh.frame.moved hb
  box := fun id bx h => by
    obtain ⟨⟨vs, h1, h2⟩, h3⟩ := hh.box id bx h
    exact ⟨⟨vs, (hb.block _ (hh.box_lt h)).trans h1, h2⟩, h3⟩
  row := fun id r h => by
    obtain ⟨h0, h1⟩ := hh.row id r h
    refine ⟨h0, ?_⟩
    cases ho : r.own
    · rw [ho] at h1; exact h1
    · rw [ho] at h1; exact ⟨h1.1.moved hb, h1.2⟩
  injB := hh.injB
  injR := hh.injR
  apart := hh.apart
  out := Below.out hh hb
  defd := Below.defd hh hb
  defm := hh.defm
  mwr := hh.mwr
  yl := hh.yl
  nd := hh.nd
  pin := hh.pin

def updN (f : Nat → Nat) (i v : Nat) : Nat → Nat := fun j => if j = i then v else f j
def updV (f : Nat → Value) (i : Nat) (v : Value) : Nat → Value := fun j => if j = i then v else f j

theorem RL_keep {st st' : St} {e e' : Env} (hp : Pres st e st' e' []) {l : List AV} {vs : List Value} (h : RL st e l vs) : RL st' e' l vs := by
  have := RL_mono (f := sweep []) hp.keep h
  rwa [mapK_sweep_nil] at this
theorem addBox {fb : Nat} {bx : Box} {vs : List Value} (hh : HeapOK c e st w) (hf : getK none st.boxes fb = none) (hk : bx.own = true) (hl : RL st e bx.cells vs) (h1 : ∀ v ∈ vs, v.oneCell' = true) :
    HeapOK c ⟨updN e.β fb w.heap.size, e.ρ, e.M, e.D, e.l⟩ ⟨st.tmps, putAt none st.boxes fb (some bx), st.rows, st.ys, st.pin⟩ (w.alloc (.cells vs.toArray bx.T)) ∧
    Pres st e ⟨st.tmps, putAt none st.boxes fb (some bx), st.rows, st.ys, st.pin⟩ ⟨updN e.β fb w.heap.size, e.ρ, e.M, e.D, e.l⟩ [] := by
  have hp : Pres st e ⟨st.tmps, putAt none st.boxes fb (some bx), st.rows, st.ys, st.pin⟩ ⟨updN e.β fb w.heap.size, e.ρ, e.M, e.D, e.l⟩ [] := by
    refine pres_of rfl rfl (fun id b hb => ?_) (fun id r _ hr => ⟨⟨r, hr, rfl, Nat.le_refl _⟩, rfl⟩)
    have hne : id ≠ fb := fun h => by rw [h, hf] at hb; cases hb
    exact ⟨⟨b, by rw [getK_putAt, if_neg hne]; exact hb⟩, by simp [updN, hne]⟩
  have hb : Below w.heap.size w (w.alloc (.cells vs.toArray bx.T)) := (Below.refl _ _).alloc (Nat.le_refl _) _
  have hm := hh.moved hb
  refine ⟨⟨hm.frame, fun id b hg => ?_, fun id r hr => hm.row id r hr, ?_, fun i j g h1 h2 => hm.injR i j g h1 h2, ?_, hm.out, hm.defd, hm.defm, hm.mwr, hm.yl, hm.nd, RL_keep hp hm.pin⟩, hp⟩
  · rw [getK_putAt] at hg
    by_cases hne : id = fb
    · rw [if_pos hne] at hg
      obtain rfl : bx = b := by simpa using hg
      refine ⟨⟨vs, by simp only [updN, if_pos hne]; exact heap_alloc_new w _, RL_keep hp hl, h1⟩, ?_⟩
      rw [hk]; simp only [updN, if_pos hne]; exact hh.new_m (Nat.le_refl _)
    · rw [if_neg hne] at hg
      obtain ⟨⟨us, h3, h4, h5⟩, h6⟩ := hm.box id b hg
      exact ⟨⟨us, by simp only [updN, if_neg hne]; exact h3, RL_keep hp h4, h5⟩, by simp only [updN, if_neg hne]; exact h6⟩
  · have key : ∀ i g, blkB ⟨updN e.β fb w.heap.size, e.ρ, e.M, e.D, e.l⟩ ⟨st.tmps, putAt none st.boxes fb (some bx), st.rows, st.ys, st.pin⟩ i = some g → (i = fb ∧ g = w.heap.size) ∨ (i ≠ fb ∧ blkB e st i = some g ∧ g < w.heap.size) := by
      intro i g h
      simp only [blkB, getK_putAt] at h
      by_cases hi : i = fb
      · left; simp [hi, hk, updN] at h; exact ⟨hi, h.symm⟩
      · right
        rw [if_neg hi] at h
        refine ⟨hi, ?_⟩
        cases hg : getK none st.boxes i with
        | none => rw [hg] at h; cases h
        | some b =>
          rw [hg] at h
          simp only [updN, if_neg hi] at h
          refine ⟨by simp only [blkB, hg]; exact h, ?_⟩
          have := hh.box_lt hg
          split at h
          · cases h; exact this
          · cases h
    intro i j g h1 h2
    rcases key i g h1 with ⟨h3, h4⟩ | ⟨h3, h4, h5⟩ <;> rcases key j g h2 with ⟨h6, h7⟩ | ⟨h6, h7, h8⟩
    · omega
    · omega
    · omega
    · exact hh.injB i j g h4 h7
  · intro i j g h1 h2
    simp only [blkB, getK_putAt] at h1
    have h3 : blkR e st j = some g := h2
    by_cases hi : i = fb
    · simp [hi, hk, updN] at h1
      simp only [blkR] at h3
      cases hg : getK none st.rows j with
      | none => rw [hg] at h3; cases h3
      | some r =>
        rw [hg] at h3
        cases hro : r.own
        · simp [hro] at h3
        · simp [hro] at h3
          have := (hh.row_lt hg hro h3).2
          omega
    · rw [if_neg hi] at h1
      refine hh.apart i j g ?_ h3
      simp only [blkB]
      cases hg : getK none st.boxes i with
      | none => rw [hg] at h1; cases h1
      | some b => rw [hg] at h1; simpa only [updN, if_neg hi] using h1
theorem addRow {fr : Nat} {r : Row} {v : Value} (hh : HeapOK c e st w) (hb : Below w.heap.size w w') (hf : getK none st.rows fr = none) (hown : r.own = true)
    (ho : Owns w' r.T r.k v r.l) (hg : ∀ g, v.ownBlock = some g → w.heap.size ≤ g) :
    HeapOK c ⟨e.β, updV e.ρ fr v, e.M, e.D, e.l⟩ ⟨st.tmps, st.boxes, putAt none st.rows fr (some r), st.ys, st.pin⟩ w' ∧
    Pres st e ⟨st.tmps, st.boxes, putAt none st.rows fr (some r), st.ys, st.pin⟩ ⟨e.β, updV e.ρ fr v, e.M, e.D, e.l⟩ [] := by
  have hp : Pres st e ⟨st.tmps, st.boxes, putAt none st.rows fr (some r), st.ys, st.pin⟩ ⟨e.β, updV e.ρ fr v, e.M, e.D, e.l⟩ [] := by
    refine pres_of rfl rfl (fun id b hb => ⟨⟨b, hb⟩, rfl⟩) (fun id q _ hq => ?_)
    have hne : id ≠ fr := fun h => by rw [h, hf] at hq; cases hq
    exact ⟨⟨q, by rw [getK_putAt, if_neg hne]; exact hq, rfl, Nat.le_refl _⟩, by simp [updV, hne]⟩
  have hm := hh.moved hb
  have key : ∀ i g, blkR ⟨e.β, updV e.ρ fr v, e.M, e.D, e.l⟩ ⟨st.tmps, st.boxes, putAt none st.rows fr (some r), st.ys, st.pin⟩ i = some g → (i = fr ∧ w.heap.size ≤ g) ∨ (i ≠ fr ∧ blkR e st i = some g ∧ g < w.heap.size) := by
    intro i g h
    simp only [blkR, getK_putAt] at h
    by_cases hi : i = fr
    · left; simp [hi, hown, updV] at h; exact ⟨hi, hg g h⟩
    · right
      rw [if_neg hi] at h
      refine ⟨hi, ?_⟩
      cases hq : getK none st.rows i with
      | none => rw [hq] at h; cases h
      | some b =>
        rw [hq] at h
        simp only [updV, if_neg hi] at h
        refine ⟨by simp only [blkR, hq]; exact h, ?_⟩
        cases hro : b.own
        · simp [hro] at h
        · simp [hro] at h
          exact (hh.row_lt hq hro h).2
  refine ⟨⟨hm.frame, fun id b hg => ?_, fun id q hq => ?_, fun i j g h1 h2 => hm.injB i j g h1 h2, ?_, ?_, hm.out, hm.defd, hm.defm, hm.mwr, hm.yl, hm.nd, RL_keep hp hm.pin⟩, hp⟩
  · obtain ⟨⟨us, h3, h4, h5⟩, h6⟩ := hm.box id b hg
    exact ⟨⟨us, h3, RL_keep hp h4, h5⟩, h6⟩
  · rw [getK_putAt] at hq
    by_cases hne : id = fr
    · rw [if_pos hne] at hq
      obtain rfl : r = q := by simpa using hq
      refine ⟨size_pos _, ?_⟩
      rw [hown]
      refine ⟨by simp only [updV, if_pos hne]; exact ho, fun g hg' => ?_⟩
      simp only [updV, if_pos hne] at hg'
      exact hh.new_m (hg g hg')
    · rw [if_neg hne] at hq
      have := hm.row id q hq
      simpa only [RowOK, updV, if_neg hne] using this
  · intro i j g h1 h2
    rcases key i g h1 with ⟨h3, h4⟩ | ⟨h3, h4, h5⟩ <;> rcases key j g h2 with ⟨h6, h7⟩ | ⟨h6, h7, h8⟩
    · omega
    · omega
    · omega
    · exact hh.injR i j g h4 h7
  · intro i j g h1 h2
    have h1' : blkB e st i = some g := h1
    rcases key j g h2 with ⟨h3, h4⟩ | ⟨h3, h4, h5⟩
    · simp only [blkB] at h1'
      cases hg : getK none st.boxes i with
      | none => rw [hg] at h1'; cases h1'
      | some b =>
        rw [hg] at h1'
        have := hh.box_lt hg
        by_cases hk : b.own = true
        · simp [hk] at h1'; omega
        · simp [hk] at h1'
    · exact hh.apart i j g h1' h4

theorem op_alloc {T fb : Nat} {d : TD} (hh : HeapOK c e st w) (ho : o.op = .alloc T) (hd : TDOK P T d) (hbig : d.big = none) (hf : getK none st.boxes fb = none) :
    Goes P c st e a w o [] ⟨st.tmps, putAt none st.boxes fb (some ⟨T, d.zero, true⟩), st.rows, st.ys, st.pin⟩ (.box fb 0) := by
  intro K Q h
  obtain ⟨i, hi, hs, hby, z, hz, hzr, hz1, hzl, _⟩ := hd.info
  obtain ⟨h1, h2⟩ := addBox (bx := ⟨T, d.zero, true⟩) (vs := z.cells.toList) hh hf rfl (hzr hbig st e) hz1
  unfold Oper.wp
  have : (execOp a.eval o).run P w = .ok (.value (.pointer (some ⟨w.heap.size, 0, none⟩))) (w.alloc (.cells z.cells T)) := by
    simp [execOp, ho, Instr.alloc, zeroValue, typeInfo, hi, hz, newVar, newRow]
  rw [this]
  refine h _ _ _ (by simpa using h1) h2 ⟨⟨_, by rw [getK_putAt, if_pos rfl]⟩, by simp [updN]⟩
theorem op_allocArr {T fr n : Nat} {k : EK} {d : TD} (hh : HeapOK c e st w) (ho : o.op = .alloc T) (hd : TDOK P T d) (hbig : d.big = some (k, n)) (hf : getK none st.rows fr = none) :
    Goes P c st e a w o [] ⟨st.tmps, st.boxes, putAt none st.rows fr (some ⟨T, k, List.replicate n k.dflt, true⟩), st.ys, st.pin⟩ (.arrp fr) := by
  intro K Q h
  obtain ⟨i, hi, hs, hby, z, hz, hzr, hz1, hzl, hzb⟩ := hd.info
  obtain ⟨hzv, hn, hkb⟩ := hzb k n hbig
  have how : Owns (w.alloc (.cells z.cells T)) T k (.slice (some ⟨w.heap.size, 0, none⟩) n n) (List.replicate n k.dflt) := by
    refine .inr ⟨w.heap.size, n, z.cells, (0, 0), by simp, heap_alloc_new w _, ?_, by simp, by unfold maxLen; omega, ?_, ?_⟩
    · unfold FZ; cases k <;> first | rfl | exact absurd rfl hkb
    · rw [← Array.length_toList, hzv, valsOf_length]; simp
    · rw [hzv, List.take_of_length_le (by rw [valsOf_length]; exact Nat.le_refl _)]
  obtain ⟨h7, h8⟩ := addRow (r := ⟨T, k, List.replicate n k.dflt, true⟩) (v := .slice (some ⟨w.heap.size, 0, none⟩) n n) hh ((Below.refl _ _).alloc (Nat.le_refl _) (.cells z.cells T)) hf rfl
    how (fun g hg => by simp [Value.ownBlock] at hg; omega)
  unfold Oper.wp
  have : (execOp a.eval o).run P w = .ok (.value (.pointer (some ⟨w.heap.size, 0, none⟩))) (w.alloc (.cells z.cells T)) := by
    simp [execOp, ho, Instr.alloc, zeroValue, typeInfo, hi, hz, newVar, newRow]
  rw [this]
  exact h _ _ _ h7 h8 ⟨_, by rw [getK_putAt, if_pos rfl], w.heap.size, n, n, by simp [updV], rfl⟩

theorem HeapOK.row_slice (hh : HeapOK c e st w) {id : Nat} {r : Row} (h : getK none st.rows id = some r) : ∃ p cc, e.ρ id = .slice p r.l.length cc := by
  obtain ⟨_, h1⟩ := hh.row id r h
  cases ho : r.own
  · rw [ho] at h1; obtain ⟨p, cc, h2, _⟩ := h1; exact ⟨p, cc, h2⟩
  · rw [ho] at h1
    rcases h1.1 with ⟨h2, h3⟩ | ⟨g, cap, cur, fz, h2, _⟩
    · exact ⟨none, 0, by rw [h3]; exact h2⟩
    · exact ⟨_, cap, h2⟩

theorem one_R (hh : HeapOK c e st w) {x : AV} {v : Value} (h : R st e x v) (h1 : x.one = true) : v.oneCell' = true := by
  cases x <;> simp only [AV.one, Bool.false_eq_true] at h1
  case view => obtain ⟨r, _, _, _, _, _, _, _, _, _, rfl, _⟩ := h; rfl
  case arrp => obtain ⟨r, _, _, _, _, _, rfl⟩ := h; rfl
  case yv => have h' : v = .func (.yield e.l) #[] #[] := h; subst h'; rfl
  case row id => obtain ⟨⟨r, hr⟩, rfl⟩ := h; obtain ⟨p, cc, hp⟩ := hh.row_slice hr; rw [hp]; rfl
  case i => cases h; rfl
  case b => cases h; rfl
  case s => cases h; rfl
  case nilp => cases h; rfl
  case mp => cases h; rfl
  case pt => cases h; rfl
  case nilf => cases h; rfl
  case nili => cases h; rfl
  case nils => cases h; rfl
  case box => obtain ⟨_, rfl⟩ := h; rfl
  case elt => obtain ⟨r, h1, h2, p, n, cc, h3, rfl⟩ := h; rfl
  case fn => obtain ⟨vs, rfl, _⟩ := h; rfl
  case ifc => obtain ⟨y, rfl, _⟩ := h; rfl

theorem cells_one {v : Value} (h : v.oneCell' = true) : v.cells.toList = [v] := by
  cases v <;> simp_all [Value.oneCell', Value.cells]

theorem oneL_R (hh : HeapOK c e st w) {l : List AV} {vs : List Value} (h : RL st e l vs) (h1 : oneL l = true) : ∀ v ∈ vs, v.oneCell' = true := by
  induction l generalizing vs with
  | nil => simp only [RL] at h; subst h; simp
  | cons x l ih =>
    obtain ⟨v, vs', rfl, hx, hl⟩ := h
    simp only [oneL, Bool.and_eq_true] at h1
    intro u hu
    rcases List.mem_cons.1 hu with rfl | hu
    · exact one_R hh hx h1.1
    · exact ih hl h1.2 u hu

theorem cells_R (hh : HeapOK c e st w) {x : AV} {v : Value} {l : List AV} (h : R st e x v) (hc : cellsOf x = some l) : RL st e l v.cells.toList ∧ ∀ u ∈ v.cells.toList, u.oneCell' = true := by
  by_cases hx : x.one = true
  · have h1 := one_R hh h hx
    have : l = [x] := by cases x <;> simp_all [cellsOf, AV.one]
    subst this
    rw [cells_one h1]
    exact ⟨⟨v, [], rfl, h, rfl⟩, by simp [h1]⟩
  · cases x <;> simp [AV.one] at hx <;> simp [cellsOf, AV.one] at hc
    obtain ⟨hc1, rfl⟩ := hc
    obtain ⟨vs, rfl, hl⟩ := h
    simp only [Value.cells]
    exact ⟨by simpa using hl, by simpa using oneL_R hh hl hc1⟩

theorem op_box {T fb : Nat} {x : Operand} {xv : AV} {l : List AV} (hh : HeapOK c e st w) (ho : o.op = .box T x) (hx : R st e xv (a.eval x)) (hc : cellsOf xv = some l) (hf : getK none st.boxes fb = none) :
    Goes P c st e a w o [] ⟨st.tmps, putAt none st.boxes fb (some ⟨T, l, true⟩), st.rows, st.ys, st.pin⟩ (.box fb 0) := by
  intro K Q h
  obtain ⟨hl, h1⟩ := cells_R hh hx hc
  obtain ⟨h2, h3⟩ := addBox (bx := ⟨T, l, true⟩) (vs := (a.eval x).cells.toList) hh hf rfl hl h1
  unfold Oper.wp
  have : (execOp a.eval o).run P w = .ok (.value (.pointer (some ⟨w.heap.size, 0, none⟩))) (w.alloc (.cells (a.eval x).cells T)) := by
    simp [execOp, ho, Instr.box, newVar, newRow]
  rw [this]
  refine h _ _ _ (by simpa using h2) h3 ⟨⟨_, by rw [getK_putAt, if_pos rfl]⟩, by simp [updN]⟩

theorem overK_eq {α : Type} (l : List α) (n : Nat) (vs : List α) (h : n + vs.length ≤ l.length) : overK l n vs = l.take n ++ vs ++ l.drop (n + vs.length) := by
  induction l generalizing n vs with
  | nil =>
    obtain rfl : n = 0 := by simp at h; omega
    obtain rfl : vs = [] := by simp at h; exact h
    rfl
  | cons x l ih =>
    cases n with
    | zero =>
      cases vs with
      | nil => simp [overK]
      | cons v vs =>
        have := ih 0 vs (by simp at h ⊢; omega)
        simp [overK, this]
    | succ n =>
      have := ih n vs (by simp at h ⊢; omega)
      simp only [overK, this]
      have : n + 1 + vs.length = (n + vs.length) + 1 := by omega
      simp [this]

theorem setRow_below {g : Nat} {cs : Array Value} (k : Nat) (h : k ≠ g) : (w.setRow g cs).heap[k]? = w.heap[k]? := setRow_other w g k cs h

theorem of_vals (k : EK) (l : List AV) (vs : List Value) (x : k.ty) (r : List AV) (h : RL st e l vs) (ho : k.of l = some (x, r)) : ∃ vs', vs = k.vals x ++ vs' ∧ RL st e r vs' := by
  induction k generalizing l vs r with
  | int k =>
    cases l with
    | nil => simp [EK.of] at ho
    | cons y l =>
      obtain ⟨v, vs', rfl, hy, hl⟩ := h
      cases y <;> simp [EK.of] at ho
      obtain ⟨rfl, rfl, rfl⟩ := ho
      cases hy
      exact ⟨vs', rfl, hl⟩
  | bool =>
    cases l with
    | nil => simp [EK.of] at ho
    | cons y l =>
      obtain ⟨v, vs', rfl, hy, hl⟩ := h
      cases y <;> simp [EK.of] at ho
      obtain ⟨rfl, rfl⟩ := ho
      cases hy
      exact ⟨vs', rfl, hl⟩
  | str =>
    cases l with
    | nil => simp [EK.of] at ho
    | cons y l =>
      obtain ⟨v, vs', rfl, hy, hl⟩ := h
      cases y <;> simp [EK.of] at ho
      obtain ⟨rfl, rfl⟩ := ho
      cases hy
      exact ⟨vs', rfl, hl⟩
  | byte =>
    cases l with
    | nil => simp [EK.of] at ho
    | cons y l =>
      obtain ⟨v, vs', rfl, hy, hl⟩ := h
      cases y <;> (try (simp [EK.of] at ho; done))
      rename_i k' n
      cases k' <;> simp [EK.of] at ho
      obtain ⟨rfl, rfl⟩ := ho
      cases hy
      exact ⟨vs', rfl, hl⟩
  | pair a b ha hb =>
    simp only [EK.of] at ho
    split at ho
    · rename_i y r1 h1
      split at ho
      · rename_i z r2 h2
        simp at ho
        obtain ⟨rfl, rfl⟩ := ho
        obtain ⟨v1, rfl, hr1⟩ := ha l vs y r1 h h1
        obtain ⟨v2, rfl, hr2⟩ := hb r1 v1 z r2 hr1 h2
        exact ⟨v2, by simp [EK.vals], hr2⟩
      · cases ho
    · cases ho

theorem fixed_ne {M : Nat → Prop} {g : Nat} (h : Fixed c M g) (h' : Mine c M g) : False := by
  rcases h'.1 with h1 | h1
  · have := h.1; omega
  · exact h.2.1 h1
theorem setRow_turns (g : Nat) (cs : Array Value) : Turns w (w.setRow g cs) g := ⟨rfl, rfl, rfl, by simp, fun _ _ h => setRow_below _ h⟩
theorem turnBox {id off : Nat} {bx : Box} {l : List AV} {us : List Value} (hh : HeapOK c e st w) (hb : getK none st.boxes id = some bx) (hk : bx.own = true) (hl : RL st e l us) (h1 : ∀ u ∈ us, u.oneCell' = true) (hfit : off + l.length ≤ bx.cells.length) :
    ∃ w', (storeCells ⟨e.β id, off, none⟩ us).run P w = .ok () w' ∧ HeapOK c e ⟨st.tmps, putAt none st.boxes id (some ⟨bx.T, overK bx.cells off l, bx.own⟩), st.rows, st.ys, st.pin⟩ w' ∧
      Pres st e ⟨st.tmps, putAt none st.boxes id (some ⟨bx.T, overK bx.cells off l, bx.own⟩), st.rows, st.ys, st.pin⟩ e [] := by
  obtain ⟨⟨vs, hheap, hvs, hone⟩, hkind⟩ := hh.box id bx hb
  have hmine : Mine c e.M (e.β id) := by rw [hk] at hkind; exact hkind
  have hlen := RL_length hvs
  have hlen' := RL_length hl
  have hp : Pres st e ⟨st.tmps, putAt none st.boxes id (some ⟨bx.T, overK bx.cells off l, bx.own⟩), st.rows, st.ys, st.pin⟩ e [] := by
    refine pres_of rfl rfl (fun i b hi => ⟨?_, rfl⟩) (fun i r _ hr => ⟨⟨r, hr, rfl, Nat.le_refl _⟩, rfl⟩)
    rw [getK_putAt]
    split
    · exact ⟨_, rfl⟩
    · exact ⟨b, hi⟩
  have hst := run_storeCells_at P (e.β id) off bx.T us 0 vs.toArray w hheap (by simp; omega) h1
  refine ⟨_, hst, ?_, hp⟩
  simp only [Nat.add_zero]
  have hblk : blkB e st id = some (e.β id) := by simp [blkB, hb, hk]
  have hBB : ∀ i, blkB e ⟨st.tmps, putAt none st.boxes id (some ⟨bx.T, overK bx.cells off l, bx.own⟩), st.rows, st.ys, st.pin⟩ i = blkB e st i := by
    intro i
    simp only [blkB, getK_putAt]
    by_cases hi : i = id
    · subst hi; simp [hb]
    · simp [hi]
  have hother : ∀ i b, getK none st.boxes i = some b → i ≠ id → e.β i ≠ e.β id := by
    intro i b hi hne heq
    by_cases hko : b.own = true
    · exact hne (hh.injB i id (e.β id) (by simp [blkB, hi, hko, heq]) hblk)
    · have h2 := (hh.box i b hi).2
      simp only [hko] at h2
      exact fixed_ne (heq ▸ h2) hmine
  have hturn := setRow_turns (w := w) (e.β id) ((vs.toArray.toList.take off ++ us ++ vs.toArray.toList.drop (off + us.length)).toArray)
  refine ⟨hturn.frame hmine hh.frame, fun i b hi => ?_, fun i r hr => ?_, fun i j g h3 h4 => hh.injB i j g (by rw [← hBB]; exact h3) (by rw [← hBB]; exact h4), hh.injR, fun i j g h3 h4 => hh.apart i j g (by rw [← hBB]; exact h3) h4, show c.J st.ys e.M _ from hturn.out hmine hh, hturn.defd hh hheap, hh.defm, hh.mwr, hh.yl, hh.nd, RL_keep hp hh.pin⟩
  · rw [getK_putAt] at hi
    by_cases hne : i = id
    · rw [if_pos hne] at hi
      subst hne
      obtain rfl := Option.some.inj hi
      refine ⟨⟨vs.take off ++ us ++ vs.drop (off + us.length), by simpa using setRow_heap w (e.β i) _ _ _ _ hheap, ?_, ?_⟩, hkind⟩
      · have key := RL_append (RL_append (RL_take hvs off) hl) (RL_drop hvs (off + l.length))
        rw [takeK_eq, dropK_eq, ← overK_eq _ _ _ hfit, ← hlen'] at key
        exact RL_keep hp key
      · intro v hv
        simp only [List.mem_append] at hv
        rcases hv with (hv | hv) | hv
        · exact hone v (List.mem_of_mem_take hv)
        · exact h1 v hv
        · exact hone v (List.mem_of_mem_drop hv)
    · rw [if_neg hne] at hi
      obtain ⟨⟨qs, h3, h4, h5⟩, h6⟩ := hh.box i b hi
      exact ⟨⟨qs, by rw [setRow_below _ (hother i b hi hne)]; exact h3, RL_keep hp h4, h5⟩, h6⟩
  · obtain ⟨h3, h4⟩ := hh.row i r hr
    refine ⟨h3, ?_⟩
    cases hro : r.own
    · rw [hro] at h4; exact h4
    · rw [hro] at h4
      refine ⟨h4.1.same (fun g hg _ => setRow_below _ (fun h => hh.apart id i (e.β id) hblk (by simp [blkR, hr, hro, hg, h]))), h4.2⟩

theorem op_store_box {T id off : Nat} {x y : Operand} {d : TD} {bx : Box} {yu : AV} {l : List AV} (hh : HeapOK c e st w) (ho : o.op = .store T x y) (hd : TDOK P T d) (hb : getK none st.boxes id = some bx) (hk : bx.own = true)
    (hx : R st e (.box id off) (a.eval x)) (hy : R st e yu (a.eval y)) (hc : cellsOf yu = some l) (hlen : l.length = d.size) (hfit : off + d.size ≤ bx.cells.length) :
    Goes P c st e a w o [] ⟨st.tmps, putAt none st.boxes id (some ⟨bx.T, overK bx.cells off l, bx.own⟩), st.rows, st.ys, st.pin⟩ (.tup []) := by
  intro K Q h
  obtain ⟨hl, h1⟩ := cells_R hh hy hc
  obtain ⟨w', hr, h2, h3⟩ := turnBox (P := P) (off := off) hh hb hk hl h1 (by omega)
  have hs := run_size (w := w) hd
  obtain ⟨_, hv⟩ := hx
  have hl2 := RL_length hl
  have hsz : (a.eval y).cells.size = d.size := by simpa using hl2.trans hlen
  unfold Oper.wp
  have : (execOp a.eval o).run P w = .ok .skip w' := by
    simp [execOp, ho, hv, Instr.storeAt, Instr.sureAddr, storeVar, hs, hsz, hr]
  rw [this]
  exact h _ _ _ h2 h3 ⟨[], rfl, rfl⟩

theorem list_take_append_full {α : Type} (l m : List α) (n : Nat) (h : l.length = n) : (l ++ m).take n = l := by subst h; simp
theorem valsOf_append (k : EK) (l m : List k.ty) : valsOf k (l ++ m) = valsOf k l ++ valsOf k m := by simp [valsOf]
theorem valsOf_take (k : EK) (l : List k.ty) (n : Nat) : (valsOf k l).take (n * k.size) = valsOf k (l.take n) := by
  by_cases h : n ≤ l.length
  · have h1 : valsOf k l = valsOf k (l.take n) ++ valsOf k (l.drop n) := by rw [← valsOf_append, List.take_append_drop]
    rw [h1]
    exact list_take_append_full _ _ _ (by rw [valsOf_length, List.length_take, Nat.min_eq_left h])
  · rw [List.take_of_length_le (by rw [valsOf_length]; exact Nat.mul_le_mul_right _ (by omega)), List.take_of_length_le (by omega)]
theorem valsOf_drop (k : EK) (l : List k.ty) (n : Nat) : (valsOf k l).drop (n * k.size) = valsOf k (l.drop n) := by
  by_cases h : n ≤ l.length
  · have h1 : valsOf k l = valsOf k (l.take n) ++ valsOf k (l.drop n) := by rw [← valsOf_append, List.take_append_drop]
    have h2 : (valsOf k (l.take n)).length = n * k.size := by rw [valsOf_length, List.length_take, Nat.min_eq_left h]
    rw [h1, ← h2, List.drop_left]
  · rw [List.drop_of_length_le (by rw [valsOf_length]; exact Nat.mul_le_mul_right _ (by omega)), List.drop_of_length_le (by omega)]; rfl
theorem valsOf_one (k : EK) (l : List k.ty) : ∀ u ∈ valsOf k l, u.oneCell' = true := by
  intro u hu
  simp only [valsOf, List.mem_flatMap] at hu
  obtain ⟨x, _, hx⟩ := hu
  exact vals_one k x u hx

theorem run_storeCells_fz (P : Program) (g o : Nat) (t : TypeId) (fz : Nat × Nat) : ∀ (vs : List Value) (i : Nat) (cur : Array Value) (w : World), w.heap[g]? = some (.cells cur t fz) → o + i + vs.length ≤ cur.size → (∀ v ∈ vs, v.oneCell' = true) → (cur.size ≤ fz.1 ∨ fz = (0, 0)) →
    (storeCells ⟨g, o, none⟩ vs i).run P w = .ok () (w.setRow g (cur.toList.take (o + i) ++ vs ++ cur.toList.drop (o + i + vs.length)).toArray)
  | [], i, cur, w, hg, _, _, _ => by
    simp only [storeCells, List.append_nil, List.length_nil, Nat.add_zero, List.take_append_drop, Array.toArray_toList]
    rw [setRow_self w g cur t fz hg]
    rfl
  | v :: rest, i, cur, w, hg, hl, h1, hz => by
    have hi : o + i < cur.size := by simp at hl; omega
    have hadd : (⟨g, o, none⟩ : Addr).add i = ⟨g, o + i, none⟩ := by unfold Addr.add; split <;> simp_all
    have hcell : w.cell? ⟨g, o + i, none⟩ = some cur[o + i] := by simp [World.cell?, hg, hi]
    have hfro : w.frozen? ⟨g, o + i, none⟩ = false := by
      obtain ⟨lo, hi'⟩ := fz
      simp only [World.frozen?, hg]
      rcases hz with h | h
      · simp at h ⊢; omega
      · simp at h; simp [h.1, h.2]
    have hst : (store ((⟨g, o, none⟩ : Addr).add i) v).run P w = .ok () (w.setRow g (cur.setIfInBounds (o + i) v)) := by
      rw [hadd, run_store P w _ v _ (h1 v (by simp)), hcell]
      simp [hfro, setCell_eq_setRow w g (o + i) cur t fz v hg]
    have ih := run_storeCells_fz P g o t fz rest (i + 1) (cur.setIfInBounds (o + i) v) (w.setRow g (cur.setIfInBounds (o + i) v)) (setRow_heap w g cur _ t _ hg) (by simp at hl ⊢; omega) (fun x hx => h1 x (by simp [hx])) (by simpa using hz)
    simp only [storeCells, Sem.run_bind, hst, Result.andThen_ok, ih, setRow_setRow]
    congr 3
    have e := list_seg_step cur.toList (o + i) v rest (by simp at hl ⊢; omega)
    simpa [Array.toList_setIfInBounds, Nat.add_assoc] using e
theorem turnRowL {id lo : Nat} {r : Row} {m : List r.k.ty} (hh : HeapOK c e st w) (hr : getK none st.rows id = some r) (ho : r.own = true) (hix : lo + m.length ≤ r.l.length) {p : Addr} {n cc : Nat} (hρ : e.ρ id = .slice (some p) n cc) :
    ∃ w', (storeCells (p.add (lo * r.k.size)) (valsOf r.k m)).run P w = .ok () w' ∧ HeapOK c e ⟨st.tmps, st.boxes, putAt none st.rows id (some ⟨r.T, r.k, r.l.take lo ++ m ++ r.l.drop (lo + m.length), true⟩), st.ys, st.pin⟩ w' ∧
      Pres st e ⟨st.tmps, st.boxes, putAt none st.rows id (some ⟨r.T, r.k, r.l.take lo ++ m ++ r.l.drop (lo + m.length), true⟩), st.ys, st.pin⟩ e [] := by
  generalize hl' : r.l.take lo ++ m ++ r.l.drop (lo + m.length) = l'
  have hlen : l'.length = r.l.length := by rw [← hl']; simp; omega
  obtain ⟨hpos, hro⟩ := hh.row id r hr
  rw [ho] at hro
  obtain ⟨hown, hmine⟩ := hro
  have hp : Pres st e ⟨st.tmps, st.boxes, putAt none st.rows id (some ⟨r.T, r.k, l', true⟩), st.ys, st.pin⟩ e [] := by
    refine pres_of rfl rfl (fun i b hi => ⟨⟨b, hi⟩, rfl⟩) (fun i q _ hq => ⟨?_, rfl⟩)
    rw [getK_putAt]
    by_cases hi : i = id
    · subst hi
      rw [hr] at hq; cases hq
      exact ⟨_, if_pos rfl, rfl, by simp [hlen]⟩
    · exact ⟨q, by rw [if_neg hi]; exact hq, rfl, Nat.le_refl _⟩
  rcases hown with ⟨hv, _⟩ | ⟨g, cap, cur, fz, hv, hgg, hfz, hnc, hcm, hcs, htake⟩
  · rw [hρ] at hv; simp at hv
  rw [hρ] at hv
  simp only [Value.slice.injEq, Option.some.injEq] at hv
  obtain ⟨rfl, rfl, rfl⟩ := hv
  have hvm := valsOf_length r.k m
  have hmul : lo * r.k.size + m.length * r.k.size ≤ r.l.length * r.k.size := by rw [← Nat.add_mul]; exact Nat.mul_le_mul_right _ hix
  have hmul2 : r.l.length * r.k.size ≤ cc * r.k.size := Nat.mul_le_mul_right _ hnc
  have hst := run_storeCells_fz P g (lo * r.k.size) r.T fz (valsOf r.k m) 0 cur w hgg (by omega) (valsOf_one _ _) (by unfold FZ at hfz; split at hfz; exact .inl hfz; exact .inr hfz)
  have hadd : (⟨g, 0, none⟩ : Addr).add (lo * r.k.size) = ⟨g, lo * r.k.size, none⟩ := by rw [Addr.add_lit]; simp
  rw [hadd]
  refine ⟨_, hst, ?_, hp⟩
  simp only [Nat.add_zero]
  have hblk : blkR e st id = some g := by simp [blkR, hr, ho, hρ, Value.ownBlock]
  have hRR : ∀ i, blkR e ⟨st.tmps, st.boxes, putAt none st.rows id (some ⟨r.T, r.k, l', true⟩), st.ys, st.pin⟩ i = blkR e st i := by
    intro i
    simp only [blkR, getK_putAt]
    by_cases hi : i = id
    · subst hi; simp [hr, ho]
    · simp [hi]
  have hgb : Mine c e.M g := hmine g (by rw [hρ]; rfl)
  have hother : ∀ i b, getK none st.boxes i = some b → e.β i ≠ g := by
    intro i b hi heq
    by_cases hko : b.own = true
    · exact hh.apart i id g (by simp [blkB, hi, hko, heq]) hblk
    · have h2 := (hh.box i b hi).2
      simp only [hko] at h2
      exact fixed_ne (heq ▸ h2) hgb
  have hturn := setRow_turns (w := w) g ((cur.toList.take (lo * r.k.size) ++ valsOf r.k m ++ cur.toList.drop (lo * r.k.size + (valsOf r.k m).length)).toArray)
  refine ⟨hturn.frame hgb hh.frame, fun i b hi => ?_, fun i q hq => ?_, hh.injB, fun i j g' h3 h4 => hh.injR i j g' (by rw [← hRR]; exact h3) (by rw [← hRR]; exact h4), fun i j g' h3 h4 => hh.apart i j g' h3 (by rw [← hRR]; exact h4), show c.J st.ys e.M _ from hturn.out hgb hh, hturn.defd hh hgg, hh.defm, hh.mwr, hh.yl, hh.nd, RL_keep hp hh.pin⟩
  · obtain ⟨⟨qs, h3, h4, h5⟩, h6⟩ := hh.box i b hi
    exact ⟨⟨qs, by rw [setRow_below _ (hother i b hi)]; exact h3, RL_keep hp h4, h5⟩, h6⟩
  · rw [getK_putAt] at hq
    by_cases hi : i = id
    · rw [if_pos hi] at hq
      subst hi
      obtain rfl := Option.some.inj hq
      refine ⟨hpos, ?_⟩
      simp only
      have hcl : cur.toList.length = cc * r.k.size := by simpa using hcs
      have hcur : cur.toList = valsOf r.k r.l ++ cur.toList.drop (r.l.length * r.k.size) := by rw [← htake, List.take_append_drop]
      have hvl := valsOf_length r.k r.l
      have h1 : cur.toList.take (lo * r.k.size) = valsOf r.k (r.l.take lo) := by
        rw [hcur, List.take_append_of_le_length (by rw [hvl]; omega), valsOf_take]
      have h2 : cur.toList.drop (lo * r.k.size + (valsOf r.k m).length) = valsOf r.k (r.l.drop (lo + m.length)) ++ cur.toList.drop (r.l.length * r.k.size) := by
        conv => lhs; rw [hcur]
        rw [List.drop_append_of_le_length (by rw [hvl, hvm]; omega), hvm, ← Nat.add_mul, valsOf_drop]
      have h3 : cur.toList.take (lo * r.k.size) ++ valsOf r.k m ++ cur.toList.drop (lo * r.k.size + (valsOf r.k m).length) = valsOf r.k l' ++ cur.toList.drop (r.l.length * r.k.size) := by
        rw [h1, h2, ← hl', valsOf_append, valsOf_append]; simp
      refine ⟨.inr ⟨g, cc, _, fz, by rw [hρ, hlen], setRow_heap w g _ _ _ _ hgg, ?_, by rw [hlen]; exact hnc, hcm, ?_, ?_⟩, hmine⟩
      · unfold FZ at hfz ⊢
        split at hfz
        · rename_i hkb
          rw [h3, hkb] at *
          simp only [List.size_toArray, List.length_append, valsOf_length, hlen, List.length_drop, hcl]
          rw [hcs] at hfz
          omega
        · exact hfz
      · rw [h3]
        simp only [List.size_toArray, List.length_append, valsOf_length, hlen, List.length_drop, hcl]
        omega
      · rw [h3]
        exact list_take_append_full _ _ _ (by rw [valsOf_length])
    · rw [if_neg hi] at hq
      obtain ⟨h3, h4⟩ := hh.row i q hq
      refine ⟨h3, ?_⟩
      cases hro : q.own
      · rw [hro] at h4; exact h4
      · rw [hro] at h4
        refine ⟨h4.1.same (fun g' hg' _ => setRow_below _ (fun h => hi (hh.injR i id g (by simp [blkR, hq, hro, hg', h]) hblk))), h4.2⟩

theorem set_eq_take {α : Type} (l : List α) (i : Nat) (x : α) (h : i < l.length) : l.take i ++ [x] ++ l.drop (i + [x].length) = l.set i x := by
  rw [List.set_eq_take_append_cons_drop, if_pos h]; simp

theorem op_store_elt {T id ix : Nat} {x y : Operand} {d : TD} {r : Row} {yu : AV} {l : List AV} {v : r.k.ty} (hh : HeapOK c e st w) (ho : o.op = .store T x y) (hd : TDOK P T d) (hr : getK none st.rows id = some r) (hown : r.own = true)
    (hx : R st e (.elt id ix 0) (a.eval x)) (hy : R st e yu (a.eval y)) (hc : cellsOf yu = some l) (hlen : l.length = d.size) (hof : r.k.of l = some (v, [])) :
    Goes P c st e a w o [] ⟨st.tmps, st.boxes, putAt none st.rows id (some ⟨r.T, r.k, r.l.set ix v, true⟩), st.ys, st.pin⟩ (.tup []) := by
  intro K Q h
  obtain ⟨hl, _⟩ := cells_R hh hy hc
  obtain ⟨r', hr', hix, p, n, cc, hρ, hv⟩ := hx
  rw [hr] at hr'; cases hr'
  obtain ⟨vs', hvs, hnil⟩ := of_vals r.k l _ v [] hl hof
  simp only [RL] at hnil
  subst hnil
  obtain ⟨w', hrun, h2, h3⟩ := turnRowL (P := P) (lo := ix) (m := [v]) hh hr hown (by simp only [List.length_singleton]; omega) hρ
  rw [set_eq_take _ _ _ hix] at h2 h3
  have hs := run_size (w := w) hd
  have hl2 := RL_length hl
  have hsz : (a.eval y).cells.size = d.size := by simpa using hl2.trans hlen
  have hvs' : (a.eval y).cells.toList = valsOf r.k [v] := by rw [hvs]; simp [valsOf]
  unfold Oper.wp
  have : (execOp a.eval o).run P w = .ok .skip w' := by
    simp only [Nat.add_zero] at hv
    simp only [execOp, ho, hv, Instr.storeAt, Instr.sureAddr, storeVar]
    simp [hs, hsz, hvs', hrun]
  rw [this]
  exact h _ _ _ h2 h3 ⟨[], rfl, rfl⟩

theorem HeapOK.blkR_cells (hh : HeapOK c e st w) {id g : Nat} (h : blkR e st id = some g) : ∃ cs T fz, w.heap[g]? = some (.cells cs T fz) := by
  simp only [blkR] at h
  cases hq : getK none st.rows id with
  | none => rw [hq] at h; cases h
  | some q =>
    rw [hq] at h
    cases hro : q.own
    · simp [hro] at h
    · simp [hro] at h
      have h4 := (hh.row id q hq).2
      rw [hro] at h4
      exact (h4.1.lt h).2
theorem growRow {id : Nat} {r : Row} {l' : List r.k.ty} {v : Value} (hh : HeapOK c e st w) (hr : getK none st.rows id = some r) (ho : r.own = true)
    (hg : w.grownBy w' (e.ρ id).ownBlock) (hown : Owns w' r.T r.k v l') (hnew : ∀ g, v.ownBlock = some g → (e.ρ id).ownBlock = some g ∨ w.heap.size ≤ g) :
    HeapOK c ⟨e.β, updV e.ρ id v, e.M, e.D, e.l⟩ ⟨mapK (sweep [id]) st.tmps, mapK (sweepBox [id]) st.boxes, putAt none st.rows id (some ⟨r.T, r.k, l', true⟩), st.ys, mapK (sweep [id]) st.pin⟩ w' ∧
    Pres st e ⟨mapK (sweep [id]) st.tmps, mapK (sweepBox [id]) st.boxes, putAt none st.rows id (some ⟨r.T, r.k, l', true⟩), st.ys, mapK (sweep [id]) st.pin⟩ ⟨e.β, updV e.ρ id v, e.M, e.D, e.l⟩ [id] := by
  have hbox : ∀ i, getK none (mapK (sweepBox [id]) st.boxes) i = sweepBox [id] (getK none st.boxes i) := fun i => getK_mapK (sweepBox [id]) none none rfl st.boxes i
  have hp : Pres st e ⟨mapK (sweep [id]) st.tmps, mapK (sweepBox [id]) st.boxes, putAt none st.rows id (some ⟨r.T, r.k, l', true⟩), st.ys, mapK (sweep [id]) st.pin⟩ ⟨e.β, updV e.ρ id v, e.M, e.D, e.l⟩ [id] := by
    refine pres_of rfl rfl (fun i b hi => ⟨?_, rfl⟩) (fun i q hne hq => ?_)
    · show ∃ bx', getK none (mapK (sweepBox [id]) st.boxes) i = some bx'
      rw [hbox, hi]; exact ⟨_, rfl⟩
    · have hne' : i ≠ id := fun h => hne (by simp [h])
      exact ⟨⟨q, by rw [getK_putAt, if_neg hne']; exact hq, rfl, Nat.le_refl _⟩, by simp [updV, hne']⟩
  have hblk : blkR e st id = (e.ρ id).ownBlock := by simp [blkR, hr, ho]
  have hold : ∀ k, k < w.heap.size → blkR e st id ≠ some k → w'.heap[k]? = w.heap[k]? := fun k h1 h2 => hg.block k h1 (fun h => h2 (by rw [hblk]; exact h.symm))
  have hbase : ∀ g, (e.ρ id).ownBlock = some g → Mine c e.M g := fun g h => (hh.row_lt hr ho h).1
  have hBB : ∀ i g, blkB ⟨e.β, updV e.ρ id v, e.M, e.D, e.l⟩ ⟨mapK (sweep [id]) st.tmps, mapK (sweepBox [id]) st.boxes, putAt none st.rows id (some ⟨r.T, r.k, l', true⟩), st.ys, mapK (sweep [id]) st.pin⟩ i = some g → blkB e st i = some g := by
    intro i g h
    simp only [blkB, hbox] at h ⊢
    cases hi : getK none st.boxes i with
    | none => rw [hi] at h; cases h
    | some b => rw [hi] at h; exact h
  have hRR : ∀ i g, blkR ⟨e.β, updV e.ρ id v, e.M, e.D, e.l⟩ ⟨mapK (sweep [id]) st.tmps, mapK (sweepBox [id]) st.boxes, putAt none st.rows id (some ⟨r.T, r.k, l', true⟩), st.ys, mapK (sweep [id]) st.pin⟩ i = some g →
      (i = id ∧ (blkR e st id = some g ∨ w.heap.size ≤ g)) ∨ (i ≠ id ∧ blkR e st i = some g ∧ g < w.heap.size) := by
    intro i g h
    simp only [blkR, getK_putAt] at h
    by_cases hi : i = id
    · left; simp [hi, updV] at h; exact ⟨hi, by rw [hblk]; exact hnew g h⟩
    · right
      rw [if_neg hi] at h
      refine ⟨hi, ?_⟩
      cases hq : getK none st.rows i with
      | none => rw [hq] at h; cases h
      | some q =>
        rw [hq] at h
        simp only [updV, if_neg hi] at h
        refine ⟨by simp only [blkR, hq]; exact h, ?_⟩
        cases hro : q.own
        · simp [hro] at h
        · simp [hro] at h; exact (hh.row_lt hq hro h).2
  have hBlt : ∀ i g, blkB e st i = some g → g < w.heap.size := by
    intro i g h
    simp only [blkB] at h
    cases hi : getK none st.boxes i with
    | none => rw [hi] at h; cases h
    | some b =>
      rw [hi] at h
      by_cases hko : b.own = true
      · simp [hko] at h; rw [← h]; exact hh.box_lt hi
      · simp [hko] at h
  have hnot : ∀ k, blkR e st id = some k → Mine c e.M k := fun k h => hbase k (by rw [← hblk]; exact h)
  refine ⟨⟨⟨hg.os.trans hh.frame.os, hg.tape.trans hh.frame.tape, hg.output.trans hh.frame.output, Nat.le_trans hh.frame.size hg.size, fun k h3 h4 => ?_⟩, fun i b hi => ?_, fun i q hq => ?_, fun i j g h3 h4 => hh.injB i j g (hBB i g h3) (hBB j g h4), ?_, ?_, show c.J st.ys e.M _ from c.Jst _ _ _ _ hh.out hg.os hg.tape hg.output hg.size (fun k hk => hold k (hh.m_lt hk) (fun h => (hnot k h).2 hk)), fun D hD => (hold D (lt_of_heap (hh.defd D hD)) (fun h => by obtain ⟨cs, T, fz, h1⟩ := hh.blkR_cells h; rw [hh.defd D hD] at h1; cases h1)).trans (hh.defd D hD), hh.defm, hh.mwr, hh.yl, hh.nd, RL_mono hp.keep hh.pin⟩, hp⟩
  · rw [hold k (by have := hh.base_le; omega) (fun h => fixed_ne ⟨h3, h4, (hnot k h).2⟩ (hnot k h))]
    exact hh.frame.block k h3 h4
  · rw [hbox] at hi
    cases hb : getK none st.boxes i with
    | none => rw [hb] at hi; cases hi
    | some b0 =>
      rw [hb] at hi
      simp only [sweepBox, Option.some.injEq] at hi
      subst hi
      obtain ⟨⟨qs, h3, h4, h5⟩, h6⟩ := hh.box i b0 hb
      refine ⟨⟨qs, ?_, RL_mono hp.keep h4, h5⟩, h6⟩
      rw [← h3]
      refine hold _ (hh.box_lt hb) (fun h => ?_)
      by_cases hko : b0.own = true
      · exact hh.apart i id (e.β i) (by simp [blkB, hb, hko]) h
      · simp only [hko] at h6
        exact fixed_ne h6 (hnot _ h)
  · rw [getK_putAt] at hq
    by_cases hi : i = id
    · rw [if_pos hi] at hq
      obtain rfl := Option.some.inj hq
      refine ⟨size_pos _, ?_⟩
      simp only [updV, if_pos hi]
      refine ⟨hown, fun g h => ?_⟩
      rcases hnew g h with h | h
      · exact hbase g h
      · exact hh.new_m h
    · rw [if_neg hi] at hq
      obtain ⟨h3, h4⟩ := hh.row i q hq
      refine ⟨h3, ?_⟩
      simp only [updV, if_neg hi]
      cases hro : q.own
      · rw [hro] at h4; exact h4
      · rw [hro] at h4
        refine ⟨h4.1.same (fun g' hg' hlt => hold _ hlt (fun h => hi (hh.injR i id g' (by simp [blkR, hq, hro, hg']) h))), h4.2⟩
  · intro i j g h1 h2
    rcases hRR i g h1 with ⟨h3, h4⟩ | ⟨h3, h4, h5⟩ <;> rcases hRR j g h2 with ⟨h6, h7⟩ | ⟨h6, h7, h8⟩
    · omega
    · rcases h4 with h4 | h4
      · exact absurd (hh.injR _ _ _ h7 h4) h6
      · omega
    · rcases h7 with h7 | h7
      · exact absurd (hh.injR _ _ _ h4 h7) h3
      · omega
    · exact hh.injR i j g h4 h7
  · intro i j g h1 h2
    have h1' := hBB i g h1
    rcases hRR j g h2 with ⟨h3, h4⟩ | ⟨h3, h4, h5⟩
    · rcases h4 with h4 | h4
      · exact hh.apart _ _ _ h1' h4
      · have := hBlt i g h1'; omega
    · exact hh.apart _ _ _ h1' h4
def Lies (w : World) (x : Value) (k : EK) (l : List k.ty) : Prop :=
  (l = [] ∧ x = .slice none 0 0) ∨ ∃ p cc, x = .slice (some p) l.length cc ∧ l.length ≤ cc ∧ ∀ j u, (valsOf k l)[j]? = some u → w.cell? (p.add j) = some u

theorem row_shape {id : Nat} {r : Row} (hh : HeapOK c e st w) (hr : getK none st.rows id = some r) : ∃ p cc, e.ρ id = .slice p r.l.length cc ∧ r.l.length ≤ cc ∧ (0 < r.l.length → ∃ q, p = some q) ∧ (p = none → cc = 0) := by
  obtain ⟨_, h1⟩ := hh.row id r hr
  cases ho : r.own
  · rw [ho] at h1
    obtain ⟨q, cap, hq, h2, h3, hc⟩ := h1
    refine ⟨q, cap, hq, h2, fun h => ?_, h3⟩
    have hlt : 0 < (valsOf r.k r.l).length := by rw [valsOf_length]; exact Nat.mul_pos h (size_pos _)
    obtain ⟨b, hb, _⟩ := hc 0 _ (List.getElem?_eq_getElem hlt)
    exact ⟨b, hb⟩
  · rw [ho] at h1
    rcases h1.1 with ⟨h2, h3⟩ | ⟨g, cap, cur, fz, h2, _, _, h5, _⟩
    · exact ⟨none, 0, by rw [h3]; exact h2, by rw [h3]; simp, fun h => by rw [h3] at h; simp at h, fun _ => rfl⟩
    · exact ⟨_, cap, h2, h5, fun _ => ⟨_, rfl⟩, fun h => by cases h⟩

theorem row_cells {id : Nat} {r : Row} (hh : HeapOK c e st w) (hr : getK none st.rows id = some r) : Lies w (e.ρ id) r.k r.l := by
  obtain ⟨p, cc, hv, hcc, hpos, hnil⟩ := row_shape hh hr
  cases p with
  | none =>
    left
    have h0 := hnil rfl
    have hl : r.l = [] := List.eq_nil_of_length_eq_zero (by omega)
    exact ⟨hl, by rw [hv, h0, hl]; rfl⟩
  | some p =>
    right
    refine ⟨p, cc, hv, hcc, fun j u hj => ?_⟩
    have hlt : j < (valsOf r.k r.l).length := (List.getElem?_eq_some_iff.1 hj).1
    rw [valsOf_length] at hlt
    have hpos := size_pos r.k
    have hix : j / r.k.size < r.l.length := (Nat.div_lt_iff_lt_mul hpos).2 hlt
    have hmod := Nat.mod_lt j hpos
    have hj' : j / r.k.size * r.k.size + j % r.k.size = j := by rw [Nat.mul_comm]; exact Nat.div_add_mod j _
    have h1 := row_elem hh hr hix hv (j % r.k.size) hmod
    rw [hj'] at h1
    rw [h1]
    have h2 := valsOf_get r.k r.l (j / r.k.size) (j % r.k.size) hmod
    rw [hj', hj] at h2
    have hx : r.l[j / r.k.size]? = some r.l[j / r.k.size] := List.getElem?_eq_getElem hix
    rw [hx] at h2
    have hd : r.l.getD (j / r.k.size) r.k.dflt = r.l[j / r.k.size] := by simp [List.getD_eq_getElem?_getD, hx]
    rw [hd]
    exact h2.symm

theorem cutL_length {α : Type} (lo hi : Nat) (l : List α) (h1 : lo ≤ hi) (h2 : hi ≤ l.length) : (cutL lo hi l).length = hi - lo := by
  simp only [cutL, List.length_take, List.length_drop]; omega

theorem view_cells {id lo hi : Nat} {ex : Bool} {r : Row} {x : Value} (hh : HeapOK c e st w) (hr : getK none st.rows id = some r) (hx : R st e (.view id lo hi ex) x) : Lies w x r.k (cutL lo hi r.l) ∧ (cutL lo hi r.l).length = hi - lo := by
  obtain ⟨r', hr', h3, h4, p, m, cc, p', c', hρ, rfl, h7, _, h9, h10⟩ := hx
  rw [hr] at hr'; cases hr'
  have hlen := cutL_length lo hi r.l h3 h4
  refine ⟨?_, hlen⟩
  cases p' with
  | none =>
    left
    have h0 := h9 rfl
    have hl : cutL lo hi r.l = [] := List.eq_nil_of_length_eq_zero (by omega)
    have h1 : hi - lo = 0 := by omega
    exact ⟨hl, by rw [h0, h1]⟩
  | some q =>
    right
    refine ⟨q, c', by rw [hlen], by rw [hlen]; exact h10, fun j u hj => ?_⟩
    have hlt : j < (valsOf r.k (cutL lo hi r.l)).length := (List.getElem?_eq_some_iff.1 hj).1
    rw [valsOf_length, hlen] at hlt
    have hlt2 : lo < hi := by
      rcases Nat.lt_or_ge lo hi with h | h
      · exact h
      · have : hi - lo = 0 := by omega
        rw [this] at hlt; omega
    obtain ⟨p0, rfl, hq⟩ := h7 hlt2
    cases hq
    rcases row_cells hh hr with ⟨h5, _⟩ | ⟨p1, c1, h5, _, h6⟩
    · rw [h5] at h4; simp at h4; omega
    · rw [hρ] at h5
      simp only [Value.slice.injEq, Option.some.injEq] at h5
      obtain ⟨rfl, _, _⟩ := h5
      rw [addr_add_add]
      apply h6
      rw [← hj]
      simp only [cutL]
      rw [← valsOf_take, ← valsOf_drop, List.getElem?_take, if_pos hlt, List.getElem?_drop]

theorem lies_of {sv : SV} {r' : Row} {y : AV} {x : Value} (hh : HeapOK c e st w) (hl : look st y = some sv) (hrl : rowlike sv = some r') (hx : R st e y x) : Lies w x r'.k r'.l := by
  cases y with
  | row id =>
    simp only [look] at hl
    split at hl
    · rename_i r hr; cases hl; cases hrl; obtain ⟨_, rfl⟩ := hx; exact row_cells hh hr
    · cases hl
  | view id lo hi ex =>
    simp only [look] at hl
    split at hl
    · rename_i r hr; cases hl; cases hrl; exact (view_cells hh hr hx).1
    · cases hl
  | box id off => simp only [look] at hl; split at hl <;> cases hl; cases hrl
  | arrp id => simp only [look] at hl; split at hl <;> cases hl; cases hrl
  | elt id ix sub => simp only [look] at hl; split at hl <;> cases hl; cases hrl
  | _ => simp only [look, reduceCtorEq, Option.some.injEq] at hl <;> (subst hl; cases hrl)

theorem castL_spec {k k' : EK} {l : List k'.ty} {m : List k.ty} (h : castL k k' l = some m) : k' = k ∧ valsOf k m = valsOf k' l ∧ m.length = l.length := by
  unfold castL at h
  split at h
  · rename_i hk
    subst hk
    cases h
    exact ⟨rfl, rfl, rfl⟩
  · cases h

theorem op_append {id : Nat} {x y : Operand} {yu : AV} {sv : SV} {t E : TypeId} {r r' : Row} {m : List r.k.ty} {de : TD} (hh : HeapOK c e st w) (ho : o.op = .call { callee := .builtin .append, args := #[x, y], argTypes := #[t, t] })
    (hT : P.underlying t = some (.slice E)) (hd : TDOK P E de) (hsz : de.size = r.k.size) (hET : E = r.T) (hr : getK none st.rows id = some r) (hown : r.own = true) (hkb : r.k ≠ .byte) (hly : look st yu = some sv) (hrl : rowlike sv = some r') (hcast : castL r.k r'.k r'.l = some m)
    (hx : R st e (.row id) (a.eval x)) (hy : R st e yu (a.eval y)) (h1 : r.l.length + r'.l.length ≤ 4000000000) (h2 : (r.l.length + r'.l.length) * de.bytes ≤ 140737488355328) :
    Goes P c st e a w o [id] ⟨mapK (sweep [id]) st.tmps, mapK (sweepBox [id]) st.boxes, putAt none st.rows id (some ⟨r.T, r.k, r.l ++ m, true⟩), st.ys, mapK (sweep [id]) st.pin⟩ (.row id) := by
  intro K Q h
  subst hET
  obtain ⟨i, hi, his, hib, z, hz, _, _, hzl, _⟩ := hd.info
  obtain ⟨_, hxv⟩ := hx
  have hlies := lies_of hh hly hrl hy
  obtain ⟨hpos, hro⟩ := hh.row id r hr
  rw [hown] at hro
  obtain ⟨how0, hbase⟩ := hro
  have how := how0.to_row hkb
  obtain ⟨hk, hvm, hlm⟩ := castL_spec hcast
  generalize hyv : a.eval y = vy at hlies
  have hrun : ∃ v' w', (Builtin.append_ #[t, t] o.type #[e.ρ id, vy]).run P w = .ok v' w' ∧ w'.ownsRow 0 r.T r.k.size v' (r.l ++ m).length (valsOf r.k (r.l ++ m)) ∧ w.grownBy w' (e.ρ id).ownBlock ∧ (∀ g, v'.ownBlock = some g → (e.ρ id).ownBlock = some g ∨ w.heap.size ≤ g) := by
    rcases hlies with ⟨hnil, rfl⟩ | ⟨p, cc, hv, _, hcells⟩
    · have hm0 : m = [] := List.eq_nil_of_length_eq_zero (by rw [hlm, hnil]; rfl)
      have := run_append_owned_none (P := P) w 0 t o.type r.T i r.k.size hT hi (e.ρ id) r.l.length _ how
      refine ⟨_, _, this, by simpa [hm0] using how, ⟨rfl, rfl, rfl, Nat.le_refl _, fun _ _ _ => rfl⟩, fun g hg => .inl hg⟩
    · obtain ⟨v', w', h3, h4, h5, _⟩ := run_append_own (P := P) w 0 t o.type r.T i z r.k.size de.bytes hT hi hz (his.trans hsz) hib (by have := hzl; simp at this; omega) hpos (e.ρ id) r.l.length _ how p r'.l.length cc (valsOf r.k m)
        (by rw [valsOf_length, hlm]) (fun j u hj => hcells j u (by rw [← hvm]; exact hj)) (valsOf_one _ _) (by unfold maxLen; omega) h2 (Nat.zero_le _)
      rw [hv]
      refine ⟨v', w', h3, by rw [List.length_append, hlm, valsOf_append]; exact h4, h5, ?_⟩
      have hnl : (valsOf r.k m).length = r'.l.length * i.size := by rw [valsOf_length, hlm, his, hsz]
      have hnc : ∀ j u, (valsOf r.k m)[j]? = some u → w.cell? (p.add j) = some u := fun j u hj => hcells j u (by rw [← hvm]; exact hj)
      rcases how.2 with ⟨h6, h7⟩ | ⟨g, cap, cur, h6, _, hgg, hnc', hcm, hcs, htake⟩
      · have how' : w.ownsRow w.heap.size r.T r.k.size (e.ρ id) r.l.length (valsOf r.k r.l) := ⟨how.1, .inl ⟨h6, h7⟩⟩
        obtain ⟨v2, w2, h8, h9, _, _⟩ := run_append_own (P := P) w w.heap.size t o.type r.T i z r.k.size de.bytes hT hi hz (his.trans hsz) hib (by have := hzl; simp at this; omega) hpos (e.ρ id) r.l.length _ how' p r'.l.length cc (valsOf r.k m)
          (by rw [valsOf_length, hlm]) hnc (valsOf_one _ _) (by unfold maxLen; omega) h2 (Nat.le_refl _)
        rw [h3] at h8
        cases h8
        exact fun g hg => .inr (h9.lt g hg).1
      · by_cases hroom : r.l.length + r'.l.length ≤ cap
        · have h8 := run_append_room (P := P) w t o.type r.T i hT hi g r.l.length cap cur hgg p r'.l.length cc (valsOf r.k m) hnl hnc (valsOf_one _ _) hroom
            (by rw [hnl, hcs, his, hsz, ← Nat.add_mul]; exact Nat.mul_le_mul_right _ hroom)
          rw [← h6, h3] at h8
          simp only [Result.ok.injEq] at h8
          intro g' hg'
          left
          rw [h8.1] at hg'
          rw [h6]; exact hg'
        · have h8 := run_append_grow (P := P) w t o.type r.T i z hT hi hz ⟨g, 0, none⟩ r.l.length cap (valsOf r.k r.l) (by rw [valsOf_length, his, hsz]) (how.cells (g := g) (by rw [h6]; rfl)) p r'.l.length cc (valsOf r.k m) hnl hnc (by omega) (by omega)
            (growslice_fits (by omega) (by rw [hib]; exact h2))
          rw [← h6, h3] at h8
          simp only [Result.ok.injEq] at h8
          intro g' hg'
          right
          rw [h8.1] at hg'
          simp [Value.ownBlock] at hg'
          omega
  obtain ⟨v', w', h3, h4, h5, h6⟩ := hrun
  obtain ⟨h7, h8⟩ := growRow hh hr hown h5 (Owns.of_row hkb h4) h6
  unfold Oper.wp
  have : (execOp a.eval o).run P w = .ok (.value v') w' := by
    simp only [execOp, ho, invoke, builtin]
    simp [hxv, hyv, Go.resolve, h3]
  rw [this]
  exact h _ _ _ h7 h8 ⟨⟨_, by rw [getK_putAt, if_pos rfl]⟩, by simp [updV]⟩

theorem zeroCells_vals {k : EK} (n : Nat) (z : Array Value) (hz : z.toList = k.vals k.dflt) : (Builtin.zeroCells z n).toList = valsOf k (List.replicate n k.dflt) := by
  have hs : z.size = k.size := by rw [← Array.length_toList, hz, vals_length]
  have hpos := size_pos k
  apply List.ext_getElem?
  intro j
  unfold Builtin.zeroCells
  rw [hs]
  by_cases hj : j < n * k.size
  · have hix : j / k.size < n := (Nat.div_lt_iff_lt_mul hpos).2 hj
    have hmod := Nat.mod_lt j hpos
    have hj' : j / k.size * k.size + j % k.size = j := by rw [Nat.mul_comm]; exact Nat.div_add_mod j _
    have h2 := valsOf_get k (List.replicate n k.dflt) (j / k.size) (j % k.size) hmod
    rw [hj'] at h2
    rw [h2, List.getElem?_replicate, if_pos hix, Option.bind_some, ← hz]
    have h3 : j % k.size < z.size := by omega
    simp [hj, h3]
  · rw [List.getElem?_eq_none (by simp; omega), List.getElem?_eq_none (by rw [valsOf_length, List.length_replicate]; omega)]

theorem ext_heap {e : Env} {w : World} {st st' : St} (hb : ∀ id, getK none st.boxes id = getK none st'.boxes id) (hr : ∀ id, getK none st.rows id = getK none st'.rows id) (hy : st.ys = st'.ys) (hpn : st.pin = st'.pin) : (∀ v x, R st e v x → R st' e v x) ∧ (HeapOK c e st w → HeapOK c e st' w) := by
  have hp : ∀ v x, R st e v x → R st' e v x := fun v x h => by
    have := (pres_of (st := st) (st' := st') (e := e) (e' := e) (ids := []) rfl rfl (fun i b hi => ⟨⟨b, by rw [← hb]; exact hi⟩, rfl⟩) (fun i q _ hq => ⟨⟨q, by rw [← hr]; exact hq, rfl, Nat.le_refl _⟩, rfl⟩)).keep v x h
    rwa [sweep_nil] at this
  have hpl : ∀ l vs, RL st e l vs → RL st' e l vs := fun l vs h => RL_keep ⟨fun v x hv => by rw [sweep_nil]; exact hp v x hv, rfl⟩ h
  have hB : ∀ i, blkB e st' i = blkB e st i := fun i => by simp only [blkB, hb]
  have hR : ∀ i, blkR e st' i = blkR e st i := fun i => by simp only [blkR, hr]
  refine ⟨hp, fun h => ⟨h.frame, fun i b hi => ?_, fun i q hq => h.row i q (by rw [hr]; exact hq), fun i j g h1 h2 => h.injB i j g (by rw [← hB]; exact h1) (by rw [← hB]; exact h2), fun i j g h1 h2 => h.injR i j g (by rw [← hR]; exact h1) (by rw [← hR]; exact h2), fun i j g h1 h2 => h.apart i j g (by rw [← hB]; exact h1) (by rw [← hR]; exact h2), by rw [← hy]; exact h.out, h.defd, h.defm, h.mwr, h.yl, h.nd, by rw [← hpn]; exact hpl _ _ h.pin⟩⟩
  obtain ⟨⟨vs, h1, h2, h3⟩, h4⟩ := h.box i b (by rw [hb]; exact hi)
  exact ⟨⟨vs, h1, hpl _ _ h2, h3⟩, h4⟩
theorem op_clear {id lo hi : Nat} {ex : Bool} {x : Operand} {t E : TypeId} {r : Row} {de : TD} (hh : HeapOK c e st w) (ho : o.op = .call { callee := .builtin .clear, args := #[x], argTypes := #[t] })
    (hT : P.underlying t = some (.slice E)) (hd : TDOK P E de) (hek : de.ek = some r.k) (hr : getK none st.rows id = some r) (hown : r.own = true) (hx : R st e (.view id lo hi ex) (a.eval x)) (h1 : lo ≤ hi ∧ hi ≤ r.l.length) :
    Goes P c st e a w o [] ⟨st.tmps, st.boxes, putAt none st.rows id (some ⟨r.T, r.k, r.l.take lo ++ List.replicate (hi - lo) r.k.dflt ++ r.l.drop hi, true⟩), st.ys, st.pin⟩ (.tup []) := by
  intro K Q h
  obtain ⟨i, hi', his, hib, z, hz, _, _, hzl, _⟩ := hd.info
  have hzv := hd.zek _ hek i z hi' hz
  obtain ⟨r', hr', h3, h4, p, m, cc, p', c', hρ, hv, h7, _, h9, h10⟩ := hx
  rw [hr] at hr'; cases hr'
  unfold Oper.wp
  by_cases hlt : lo < hi
  · obtain ⟨p0, rfl, rfl⟩ := h7 hlt
    have hsz : lo + (List.replicate (hi - lo) r.k.dflt).length = hi := by simp; omega
    obtain ⟨w', hrun, h2, h5⟩ := turnRowL (P := P) (lo := lo) (m := List.replicate (hi - lo) r.k.dflt) hh hr hown (by omega) hρ
    rw [hsz] at h2 h5
    have hcells := zeroCells_vals (k := r.k) (hi - lo) z.cells hzv
    have hzr : (zeroValue E).run P w = .ok z w := by simp [zeroValue, typeInfo, hi', hz]
    obtain ⟨q, hq⟩ : ∃ q, hi - lo = q + 1 := ⟨hi - lo - 1, by omega⟩
    have hrun' : (storeCells (p0.add (lo * r.k.size)) (Builtin.zeroCells z.cells (q + 1)).toList).run P w = .ok () w' := by rw [← hq, hcells]; exact hrun
    have hrun2 : (Builtin.clear_ #[t] o.type #[.slice (some (p0.add (lo * r.k.size))) (q + 1) c']).run P w = .ok (.tuple #[]) w' := by
      simp [Builtin.clear_, run_underlying hT, hzr, hrun']
    have : (execOp a.eval o).run P w = .ok (.value (.tuple #[])) w' := by
      simp only [execOp, ho, invoke, builtin]
      simp [hv, hq, Go.resolve, hrun2]
    rw [this]
    exact h _ _ _ h2 h5 ⟨[], rfl, rfl⟩
  · have heq : lo = hi := by omega
    subst heq
    have h0 : lo - lo = 0 := by omega
    have hl : r.l.take lo ++ List.replicate (lo - lo) r.k.dflt ++ r.l.drop lo = r.l := by rw [h0]; simp
    rw [hl] at h
    have hrun2 : (Builtin.clear_ #[t] o.type #[.slice p' 0 c']).run P w = .ok (.tuple #[]) w := by
      cases p' <;> simp [Builtin.clear_, run_underlying hT]
    have : (execOp a.eval o).run P w = .ok (.value (.tuple #[])) w := by
      simp only [execOp, ho, invoke, builtin]
      simp [hv, h0, Go.resolve, hrun2]
    rw [this]
    have hrow : (⟨r.T, r.k, r.l, true⟩ : Row) = r := by cases r; simp_all
    have hget : ∀ i, getK none (putAt none st.rows id (some ⟨r.T, r.k, r.l, true⟩)) i = getK none st.rows i := by
      intro i
      rw [getK_putAt]
      by_cases hi : i = id
      · rw [if_pos hi, hrow, hi, hr]
      · rw [if_neg hi]
    obtain ⟨h11, h12⟩ := ext_heap (st := st) (st' := ⟨st.tmps, st.boxes, putAt none st.rows id (some ⟨r.T, r.k, r.l, true⟩), st.ys, st.pin⟩) (c := c) (e := e) (w := w) (fun _ => rfl) (fun i => (hget i).symm) rfl rfl
    exact h _ _ _ (h12 hh) ⟨fun v x hv => by rw [sweep_nil]; exact h11 v x hv, rfl⟩ ⟨[], rfl, rfl⟩
end
end Go.X

namespace Go.X
open Go.RowKit

section
variable {P : Program} {c : Ctx} {st : St} {e : Env} {a : Act} {w w' : World} {o : Oper} {av : AV}

theorem op_append_nils {fr : Nat} {x y : Operand} {yu : AV} {sv : SV} {t E : TypeId} {r' : Row} {de : TD} (hh : HeapOK c e st w) (ho : o.op = .call { callee := .builtin .append, args := #[x, y], argTypes := #[t, t] })
    (hT : P.underlying t = some (.slice E)) (hd : TDOK P E de) (hsz : de.size = r'.k.size) (hkb : r'.k ≠ .byte) (hly : look st yu = some sv) (hrl : rowlike sv = some r') (hf : getK none st.rows fr = none)
    (hx : R st e .nils (a.eval x)) (hy : R st e yu (a.eval y)) (h1 : r'.l.length ≤ 4000000000) (h2 : r'.l.length * de.bytes ≤ 140737488355328) :
    Goes P c st e a w o [] ⟨st.tmps, st.boxes, putAt none st.rows fr (some ⟨E, r'.k, r'.l, true⟩), st.ys, st.pin⟩ (.row fr) := by
  intro K Q h
  obtain ⟨i, hi, his, hib, z, hz, _, _, hzl, _⟩ := hd.info
  have hlies := lies_of hh hly hrl hy
  have hxv : a.eval x = .slice none 0 0 := hx
  have how : w.ownsRow 0 E r'.k.size (.slice none 0 0) 0 [] := World.ownsRow_nil _ _ _ _
  generalize hyv : a.eval y = vy at hlies
  have hrun : ∃ v' w', (Builtin.append_ #[t, t] o.type #[.slice none 0 0, vy]).run P w = .ok v' w' ∧ w'.ownsRow 0 E r'.k.size v' r'.l.length (valsOf r'.k r'.l) ∧ Below w.heap.size w w' ∧ (∀ g, v'.ownBlock = some g → w.heap.size ≤ g) := by
    rcases hlies with ⟨hnil, rfl⟩ | ⟨p, cc, hv, _, hcells⟩
    · have := run_append_owned_none (P := P) w 0 t o.type E i r'.k.size hT hi (.slice none 0 0) 0 _ how
      rw [hnil]
      exact ⟨_, _, this, by simpa [valsOf] using how, Below.refl _ _, fun g hg => by simp [Value.ownBlock] at hg⟩
    · have how' : w.ownsRow w.heap.size E r'.k.size (.slice none 0 0) 0 [] := World.ownsRow_nil _ _ _ _
      obtain ⟨v', w', h3, h4, h5, _⟩ := run_append_own (P := P) w w.heap.size t o.type E i z r'.k.size de.bytes hT hi hz (his.trans hsz) hib (by have := hzl; simp at this; omega) (size_pos _) (.slice none 0 0) 0 _ how' p r'.l.length cc (valsOf r'.k r'.l)
        (by rw [valsOf_length]) hcells (valsOf_one _ _) (by unfold maxLen; omega) (by simpa using h2) (Nat.le_refl _)
      rw [hv]
      refine ⟨v', w', h3, ?_, ⟨h5.os, h5.tape, h5.output, h5.size, fun k hk => h5.block k hk (by simp [Value.ownBlock])⟩, fun g hg => (h4.lt g hg).1⟩
      have h6 : w'.ownsRow w.heap.size E r'.k.size v' r'.l.length (valsOf r'.k r'.l) := by simpa using h4
      refine ⟨h6.1, ?_⟩
      rcases h6.2 with hn | ⟨g, cap, cur, h7, _, h8⟩
      · exact .inl hn
      · exact .inr ⟨g, cap, cur, h7, Nat.zero_le _, h8⟩
  obtain ⟨v', w', h3, h4, h5, h6⟩ := hrun
  obtain ⟨h7, h8⟩ := addRow (r := ⟨E, r'.k, r'.l, true⟩) hh h5 hf rfl (Owns.of_row hkb h4) h6
  unfold Oper.wp
  have : (execOp a.eval o).run P w = .ok (.value v') w' := by
    simp only [execOp, ho, invoke, builtin]
    simp [hxv, hyv, Go.resolve, h3]
  rw [this]
  exact h _ _ _ h7 h8 ⟨⟨_, by rw [getK_putAt, if_pos rfl]⟩, by simp [updV]⟩

theorem op_len_view {x : Operand} {t E : TypeId} {args : Array Operand} {ts : Array TypeId} {id lo hi : Nat} {ex : Bool} (hh : HeapOK c e st w) (ho : o.op = .call { callee := .builtin .len, args := args, argTypes := ts }) (ha : args.toList = [x]) (hts : ts.toList = [t])
    (hT : P.underlying t = some (.slice E)) (hx : R st e (.view id lo hi ex) (a.eval x)) : Goes P c st e a w o [] st (.i .i64 (hi - lo : Nat)) := by
  obtain rfl : args = #[x] := Array.ext' (by simpa using ha)
  obtain rfl : ts = #[t] := Array.ext' (by simpa using hts)
  obtain ⟨r, _, _, _, _, _, _, _, _, _, hv, _⟩ := hx
  exact goes_value (v := .int .i64 (hi - lo : Nat)) hh (by simp [execOp, ho, Go.resolve, invoke, builtin, Builtin.len_, hv, run_underlying hT, goInt]) rfl
theorem op_len_s {x : Operand} {s : ByteArray} {t : TypeId} {args : Array Operand} {ts : Array TypeId} (hh : HeapOK c e st w) (ho : o.op = .call { callee := .builtin .len, args := args, argTypes := ts }) (ha : args.toList = [x]) (hts : ts.toList = [t])
    (hT : P.underlying t = some .string) (hx : a.eval x = .string s) : Goes P c st e a w o [] st (.i .i64 s.size) := by
  obtain rfl : args = #[x] := Array.ext' (by simpa using ha)
  obtain rfl : ts = #[t] := Array.ext' (by simpa using hts)
  exact goes_value (v := .int .i64 s.size) hh (by simp [execOp, ho, Go.resolve, invoke, builtin, Builtin.len_, hx, run_underlying hT, goInt]) rfl
theorem op_len_row {x : Operand} {t E : TypeId} {args : Array Operand} {ts : Array TypeId} {id : Nat} {r : Row} (hh : HeapOK c e st w) (ho : o.op = .call { callee := .builtin .len, args := args, argTypes := ts }) (ha : args.toList = [x]) (hts : ts.toList = [t])
    (hT : P.underlying t = some (.slice E)) (hr : getK none st.rows id = some r) (hx : R st e (.row id) (a.eval x)) : Goes P c st e a w o [] st (.i .i64 r.l.length) := by
  obtain rfl : args = #[x] := Array.ext' (by simpa using ha)
  obtain rfl : ts = #[t] := Array.ext' (by simpa using hts)
  obtain ⟨_, hv⟩ := hx
  obtain ⟨p, cc, hp⟩ := hh.row_slice hr
  rw [hp] at hv
  exact goes_value (v := .int .i64 r.l.length) hh (by simp [execOp, ho, Go.resolve, invoke, builtin, Builtin.len_, hv, run_underlying hT, goInt]) rfl
theorem op_len_nils {x : Operand} {t E : TypeId} {args : Array Operand} {ts : Array TypeId} (hh : HeapOK c e st w) (ho : o.op = .call { callee := .builtin .len, args := args, argTypes := ts }) (ha : args.toList = [x]) (hts : ts.toList = [t])
    (hT : P.underlying t = some (.slice E)) (hx : R st e .nils (a.eval x)) : Goes P c st e a w o [] st (.i .i64 0) := by
  obtain rfl : args = #[x] := Array.ext' (by simpa using ha)
  obtain rfl : ts = #[t] := Array.ext' (by simpa using hts)
  have hv : a.eval x = .slice none 0 0 := hx
  exact goes_value (v := .int .i64 0) hh (by simp [execOp, ho, Go.resolve, invoke, builtin, Builtin.len_, hv, run_underlying hT, goInt]) rfl
theorem op_min {x y : Operand} {args : Array Operand} {ts : Array TypeId} {k : IntKind} {m n : Int} (hh : HeapOK c e st w) (ho : o.op = .call { callee := .builtin .min, args := args, argTypes := ts }) (ha : args.toList = [x, y])
    (hx : a.eval x = .int k m) (hy : a.eval y = .int k n) : Goes P c st e a w o [] st (.i k (if n < m then n else m)) := by
  obtain rfl : args = #[x, y] := Array.ext' (by simpa using ha)
  exact goes_value (v := .int k (if n < m then n else m)) hh (by simp [execOp, ho, Go.resolve, invoke, builtin, Builtin.min_, Builtin.min2, hx, hy]) rfl
theorem op_max {x y : Operand} {args : Array Operand} {ts : Array TypeId} {k : IntKind} {m n : Int} (hh : HeapOK c e st w) (ho : o.op = .call { callee := .builtin .max, args := args, argTypes := ts }) (ha : args.toList = [x, y])
    (hx : a.eval x = .int k m) (hy : a.eval y = .int k n) : Goes P c st e a w o [] st (.i k (if n > m then n else m)) := by
  obtain rfl : args = #[x, y] := Array.ext' (by simpa using ha)
  exact goes_value (v := .int k (if n > m then n else m)) hh (by simp [execOp, ho, Go.resolve, invoke, builtin, Builtin.max_, Builtin.max2, hx, hy]) rfl

theorem foldl_set (vs : List Value) : ∀ (k off : Nat) (cells : Array Value), off + k + vs.length ≤ cells.size →
    ((vs.zipIdx k).foldl (fun (cs : Array Value) (p : Value × Nat) => cs.setIfInBounds (off + p.2) p.1) cells).toList = cells.toList.take (off + k) ++ vs ++ cells.toList.drop (off + k + vs.length) := by
  induction vs with
  | nil => intro k off cells h; simp
  | cons v vs ih =>
    intro k off cells h
    simp only [List.length_cons] at h
    simp only [List.zipIdx_cons, List.foldl_cons]
    rw [ih (k + 1) off _ (by simp; omega)]
    have hlt : off + k < cells.toList.length := by simp; omega
    simp only [Array.toList_setIfInBounds, List.length_cons]
    rw [show off + (k + 1) = off + k + 1 by omega, List.take_add_one, List.take_set_of_le (by omega), List.getElem?_set_self hlt, List.drop_set_of_lt (by omega)]
    simp
    congr 1
    omega

theorem fill_step (place : Nat → Option (Nat × Nat)) (cells : Array Value) (i off size : Nat) (v : Value) (rest : List (Nat × Value)) (hp : place i = some (off, size)) (hs : v.cells.size = size) (hf : off + size ≤ cells.size) :
    Instr.fill place cells ((i, v) :: rest) = Instr.fill place (cells.toList.take off ++ v.cells.toList ++ cells.toList.drop (off + size)).toArray rest := by
  have h := foldl_set v.cells.toList 0 off cells (by simp; omega)
  simp only [Nat.add_zero, Array.length_toList, hs] at h
  simp only [Instr.fill, hp]
  rw [if_neg (by simp; omega)]
  congr 1
  apply Array.ext'
  rw [← h, ← Array.toList_zipIdx, Array.foldl_toList]

theorem fillS_run {places : List (Nat × Nat)} (hh : HeapOK c e st w) : ∀ (ps : List (Nat × Operand)) (A : Operand → AV) (cells out : List AV) (zs : Array Value), (∀ p ∈ ps, R st e (A p.2) (a.eval p.2)) → RL st e cells zs.toList →
    fillS places cells (mapK (fun p => (p.1, A p.2)) ps) = some out → ∃ outv, Instr.fill (fun i => places[i]?) zs (ps.map fun p => (p.1, a.eval p.2)) = some outv ∧ RL st e out outv.toList := by
  intro ps A
  induction ps with
  | nil => intro cells out zs _ hl h; simp only [mapK, fillS, Option.some.injEq] at h; subst h; exact ⟨zs, rfl, hl⟩
  | cons p ps ih =>
    intro cells out zs hA hl h
    obtain ⟨i, x⟩ := p
    simp only [mapK, fillS] at h
    split at h
    · rename_i vs hvs
      generalize hpl : getK (0, 0) places i = pl at h
      obtain ⟨off, size⟩ := pl
      simp only at h
      split at h
      · rename_i hc
        obtain ⟨hsz, hfit, hi⟩ := hc
        have hx := hA (i, x) (by simp)
        obtain ⟨hv, _⟩ := cells_R hh hx hvs
        have hlv := RL_length hv
        have hlz := RL_length hl
        simp only [Array.length_toList] at hlv hlz
        have hplace : places[i]? = some (off, size) := by
          rw [getK_eq, List.getElem?_eq_getElem hi] at hpl
          rw [List.getElem?_eq_getElem hi, ← hpl]; rfl
        simp only [List.map_cons]
        rw [fill_step _ _ i off size _ _ hplace (by omega) (by omega)]
        refine ih _ out _ (fun q hq => hA q (by simp [hq])) ?_ h
        have key := RL_append (RL_append (RL_take hl off) hv) (RL_drop hl (off + size))
        rw [takeK_eq, dropK_eq, ← hsz, ← overK_eq _ _ _ (by omega)] at key
        rw [← hsz]
        simpa using key
      · cases h
    · cases h

theorem sizesOf_run {TT : TypeId → Option TD} (hTT : TTOK P TT) : ∀ (fields : List Field) (places : List (Nat × Nat)), sizesOf TT (mapK (fun f => (f.offset, f.type)) fields) = some places →
    (fields.mapM (m := Sem) fun f => Prod.mk f.offset <$> sizeOf f.type).run P w = .ok places w := by
  intro fields
  induction fields with
  | nil => intro places h; simp only [mapK, sizesOf, Option.some.injEq] at h; subst h; rfl
  | cons f fields ih =>
    intro places h
    simp only [mapK, sizesOf] at h
    split at h
    · rename_i d hd
      split at h
      · rename_i r hr
        cases h
        have := ih r hr
        have hs := run_size (w := w) (hTT _ _ hd)
        simp [List.mapM_cons, hs, this]
      · cases h
    · cases h

theorem op_build_struct {TT : TypeId → Option TD} (hTT : TTOK P TT) {T : TypeId} {parts : Array (Nat × Operand)} {d : TD} {fs : List (Nat × TypeId)} {places : List (Nat × Nat)} {A : Operand → AV} {cells : List AV} (hh : HeapOK c e st w) (ho : o.op = .build T parts)
    (hd : TDOK P T d) (hbig : d.big = none) (hk : d.k = .struct fs) (hpl : sizesOf TT fs = some places) (hA : ∀ p ∈ parts.toList, R st e (A p.2) (a.eval p.2)) (hf : fillS places d.zero (mapK (fun p => (p.1, A p.2)) parts.toList) = some cells) :
    Goes P c st e a w o [] st (.agg cells) := by
  obtain ⟨i, hi, hs, hby, z, hz, hzr', hz1, hzl, _⟩ := hd.info
  have hzr := hzr' hbig
  have hT := hd.k
  rw [hk] at hT
  obtain ⟨fields, hT, rfl⟩ := hT
  obtain ⟨outv, h1, h2⟩ := fillS_run (a := a) hh parts.toList A d.zero cells z.cells hA (hzr st e) hf
  have h3 := sizesOf_run (w := w) hTT fields.toList places hpl
  have h4 : (fields.mapM (m := Sem) fun f => Prod.mk f.offset <$> sizeOf f.type).run P w = .ok places.toArray w := by
    rw [Array.mapM_eq_mapM_toList, Sem.run_map, h3]; rfl
  refine goes_value (v := .agg outv) hh ?_ ⟨outv.toList, by simp, h2⟩
  have h5 : (parts.map fun x => (x.1, a.eval x.2)).toList = parts.toList.map fun p => (p.1, a.eval p.2) := by simp
  simp only [execOp, ho, Instr.build]
  simp [zeroValue, typeInfo, hi, hz, run_underlying hT]
  rw [h4]
  simp [h1]

theorem range_getElem? (n i : Nat) : (List.range n)[i]? = if i < n then some i else none := by
  by_cases h : i < n <;> simp [h]

theorem op_build_arr {T E n : Nat} {parts : Array (Nat × Operand)} {d de : TD} {A : Operand → AV} {cells : List AV} (hh : HeapOK c e st w) (ho : o.op = .build T parts)
    (hd : TDOK P T d) (hbig : d.big = none) (hk : d.k = .arr n E) (hde : TDOK P E de) (hA : ∀ p ∈ parts.toList, R st e (A p.2) (a.eval p.2)) (hf : fillS (mapK (fun i => (i * de.size, de.size)) (List.range n)) d.zero (mapK (fun p => (p.1, A p.2)) parts.toList) = some cells) :
    Goes P c st e a w o [] st (.agg cells) := by
  obtain ⟨i, hi, hs, hby, z, hz, hzr', hz1, hzl, _⟩ := hd.info
  have hzr := hzr' hbig
  have hT := hd.k
  rw [hk] at hT
  have hT' : P.underlying T = some (.array n E) := hT
  obtain ⟨outv, h1, h2⟩ := fillS_run (a := a) hh parts.toList A d.zero cells z.cells hA (hzr st e) hf
  have hsz := run_size (w := w) hde
  have h1' : Instr.fill (fun i => some (i * de.size, de.size)) z.cells (parts.toList.map fun p => (p.1, a.eval p.2)) = some outv := by
    have key : ∀ (l : List (Nat × Value)) (cs : Array Value) (out : Array Value), Instr.fill (fun i => (mapK (fun i => (i * de.size, de.size)) (List.range n))[i]?) cs l = some out → Instr.fill (fun i => some (i * de.size, de.size)) cs l = some out := by
      intro l
      induction l with
      | nil => intro cs out h; exact h
      | cons p l ih =>
        intro cs out h
        obtain ⟨j, v⟩ := p
        have hj : (mapK (fun i => (i * de.size, de.size)) (List.range n))[j]? = if j < n then some (j * de.size, de.size) else none := by
          rw [mapK_eq, List.getElem?_map, range_getElem?]; split <;> rfl
        simp only [Instr.fill, hj] at h ⊢
        by_cases hjn : j < n
        · simp only [hjn, if_true] at h
          split at h
          · cases h
          · rename_i hc
            rw [if_neg hc]
            exact ih _ _ h
        · simp [hjn] at h
    exact key _ _ _ h1
  refine goes_value (v := .agg outv) hh ?_ ⟨outv.toList, by simp, h2⟩
  have h5 : (parts.map fun x => (x.1, a.eval x.2)).toList = parts.toList.map fun p => (p.1, a.eval p.2) := by simp
  simp only [execOp, ho, Instr.build]
  simp [zeroValue, typeInfo, hi, hz, run_underlying hT', hsz, h1']

theorem elems_run {k : EK} (hh : HeapOK c e st w) {len : Nat} : ∀ (ps : List (Nat × Operand)) (A : Operand → AV) (n : Nat) (l pre : List k.ty) (cells : Array Value), (∀ p ∈ ps, R st e (A p.2) (a.eval p.2)) → elems k A n ps = some l → pre.length = n →
    cells.size = len * k.size → n + l.length = len → cells.toList.take (n * k.size) = valsOf k pre → ∃ outv, Instr.fill (fun i => some (i * k.size, k.size)) cells (ps.map fun p => (p.1, a.eval p.2)) = some outv ∧ outv.toList = valsOf k (pre ++ l) := by
  intro ps A
  induction ps with
  | nil =>
    intro n l pre cells _ h hn hs hlen hpre
    simp only [elems, Option.some.injEq] at h
    subst h
    refine ⟨cells, rfl, ?_⟩
    rw [List.append_nil, ← hpre, List.take_of_length_le]
    simp at hlen
    simp [hs, hlen]
  | cons p ps ih =>
    intro n l pre cells hA h hn hs hlen hpre
    obtain ⟨i, x⟩ := p
    simp only [elems] at h
    split at h
    · rename_i hi
      split at h
      · rename_i vs hvs
        split at h
        · rename_i x1 hof
          split at h
          · rename_i es hes
            cases h
            have hx := hA (i, x) (by simp)
            obtain ⟨hv, _⟩ := cells_R hh hx hvs
            obtain ⟨v', hv1, hv2⟩ := of_vals k vs _ x1 [] hv hof
            simp only [RL] at hv2
            subst hv2
            rw [List.append_nil] at hv1
            have hvl := vals_length k x1
            subst hi
            have hsz : (a.eval x).cells.size = k.size := by rw [← Array.length_toList, hv1, hvl]
            simp only [List.length_cons] at hlen
            have hmul : (i + 1) * k.size ≤ len * k.size := Nat.mul_le_mul_right _ (by omega)
            rw [Nat.add_mul, Nat.one_mul] at hmul
            simp only [List.map_cons]
            rw [fill_step _ _ i (i * k.size) k.size _ _ rfl hsz (by omega)]
            have hv1' : (a.eval x).cells.toList = k.vals x1 := hv1
            have hz1 : (cells.toList.take (i * k.size)).length = i * k.size := by rw [List.length_take, Array.length_toList]; omega
            have := ih (i + 1) es (pre ++ [x1]) (cells.toList.take (i * k.size) ++ (a.eval x).cells.toList ++ cells.toList.drop (i * k.size + k.size)).toArray (fun q hq => hA q (by simp [hq])) hes (by simp [hn])
              (by
                rw [List.size_toArray, List.length_append, List.length_append, hz1, hv1', hvl, List.length_drop, Array.length_toList]
                omega) (by omega)
              (by
                rw [valsOf_append, ← hpre, hv1']
                have h3 : valsOf k [x1] = k.vals x1 := by simp [valsOf]
                rw [h3, Nat.add_mul, Nat.one_mul]
                have h4 : (cells.toList.take (i * k.size) ++ k.vals x1).length = i * k.size + k.size := by rw [List.length_append, hz1, hvl]
                exact list_take_append_full _ _ _ h4)
            have h6 : pre ++ [x1] ++ es = pre ++ x1 :: es := by simp
            rw [h6] at this
            exact this
          · cases h
        · cases h
      · cases h
    · cases h

theorem op_buildSlice {T E len fr : Nat} {parts : Array (Nat × Operand)} {de : TD} {k : EK} {A : Operand → AV} {l : List k.ty} (hh : HeapOK c e st w) (ho : o.op = .buildSlice T len parts)
    (hT : P.underlying T = some (.slice E)) (hde : TDOK P E de) (hA : ∀ p ∈ parts.toList, R st e (A p.2) (a.eval p.2)) (hel : elems k A 0 parts.toList = some l) (hlen : l.length = len) (hsz : de.size = k.size) (hkb : k ≠ .byte) (hbig : len * de.size ≤ 1000000)
    (hf : getK none st.rows fr = none) : Goes P c st e a w o [] ⟨st.tmps, st.boxes, putAt none st.rows fr (some ⟨E, k, l, true⟩), st.ys, st.pin⟩ (.row fr) := by
  intro K Q h
  obtain ⟨i, hi, hs, hby, z, hz, hzr, hz1, hzl, _⟩ := hde.info
  have hrs := run_size (w := w) hde
  have h5 : (parts.map fun x => (x.1, a.eval x.2)).toList = parts.toList.map fun p => (p.1, a.eval p.2) := by simp
  have hkey : ∀ cells : Array Value, cells.size = len * k.size → ∃ outv, Instr.fill (fun i => some (i * k.size, k.size)) cells (parts.toList.map fun p => (p.1, a.eval p.2)) = some outv ∧ outv.toList = valsOf k l := fun cells hc => by
    have := elems_run (a := a) (k := k) (len := len) hh parts.toList A 0 l [] cells hA hel rfl hc (by omega) (by simp [valsOf])
    simpa using this
  rw [hsz] at hbig
  have hrun : ∃ outv : Array Value, outv.toList = valsOf k l ∧ (execOp a.eval o).run P w = .ok (.value (.slice (some ⟨w.heap.size, 0, none⟩) len len)) (w.alloc (.cells outv E)) := by
    simp only [execOp, ho, Instr.buildSlice]
    by_cases h0 : len * k.size = 0
    · obtain ⟨outv, h1, h2⟩ := hkey #[] (by simp [h0])
      refine ⟨outv, h2, ?_⟩
      rw [hsz] at hrs
      have hl0 : len = 0 := by
        rcases Nat.mul_eq_zero.1 h0 with h | h
        · exact h
        · have := size_pos k; omega
      simp only [Sem.run_bind, run_underlying hT, Result.andThen_ok, hrs, if_pos h0]
      have he : Array.map (fun _ : Nat => (default : Value)) (Array.range 0) = #[] := by simp
      simp [hl0, he, h1, newRow]
    · obtain ⟨outv, h1, h2⟩ := hkey ((Array.range (len * k.size)).map (fun j => z.cells[j % z.cells.size]!)) (by simp)
      refine ⟨outv, h2, ?_⟩
      have hb : ¬ (16777216 < len * k.size) := by omega
      rw [hsz] at hrs
      simp only [Sem.run_bind, run_underlying hT, Result.andThen_ok, hrs, if_neg h0]
      simp [hb, zeroValue, typeInfo, hi, hz, h1, newRow]
  obtain ⟨outv, h2, hrun⟩ := hrun
  have how : (w.alloc (.cells outv E)).ownsRow 0 E k.size (.slice (some ⟨w.heap.size, 0, none⟩) len len) len outv.toList := by
    refine World.ownsRow_lit w outv len (Nat.zero_le _) (by unfold maxLen; have := size_pos k; have := Nat.le_mul_of_pos_right len this; omega) ?_
    rw [← Array.length_toList, h2, valsOf_length, hlen]
  obtain ⟨h7, h8⟩ := addRow (r := ⟨E, k, l, true⟩) (v := .slice (some ⟨w.heap.size, 0, none⟩) len len) hh ((Below.refl _ _).alloc (Nat.le_refl _) (.cells outv E)) hf rfl (Owns.of_row (b := 0) hkb (by simp only [hlen]; rw [← h2]; exact how)) (fun g hg => by simp [Value.ownBlock] at hg; omega)
  unfold Oper.wp
  rw [hrun]
  exact h _ _ _ h7 h8 ⟨⟨_, by rw [getK_putAt, if_pos rfl]⟩, by simp [updV]⟩

theorem valsOf_byte (l : List Int) : valsOf .byte l = l.map (Value.int .u8) := by
  induction l with
  | nil => rfl
  | cons x l ih => simp only [valsOf, List.flatMap_cons, List.map_cons] at *; rw [ih]; rfl
theorem valsOf_u8 (l : List Int) : valsOf (.int .u8) l = l.map (Value.int .u8) := by
  induction l with
  | nil => rfl
  | cons x l ih => simp only [valsOf, List.flatMap_cons, List.map_cons] at *; rw [ih]; rfl

theorem op_convSB {src dst E : TypeId} {x : Operand} {s : ByteArray} {fr : Nat} (hh : HeapOK c e st w) (ho : o.op = .convert src dst x) (hs : P.underlying src = some .string) (hd : P.underlying dst = some (.slice E)) (he : P.underlying E = some (.int .u8))
    (hx : a.eval x = .string s) (hlen : s.size ≤ 4000000000) (hf : getK none st.rows fr = none) : Goes P c st e a w o [] ⟨st.tmps, st.boxes, putAt none st.rows fr (some ⟨E, .byte, bytesL s, true⟩), st.ys, st.pin⟩ (.row fr) := by
  intro K Q h
  have hrun := run_bytes_of_string (P := P) w src dst E s hs hd he
  generalize hcap : grownCap w s.size 0 E = cap at hrun
  have hc1 : s.size ≤ cap ∧ cap ≤ maxLen := by
    rw [← hcap]
    simp only [grownCap, Question.cut, maxLen]
    have := Nat.mod_lt (w.tape w.drawn (.appendCap s.size 0 E)) (show 2 ^ 63 - s.size > 0 by omega)
    omega
  generalize hC : bytesRow s cap = C at hrun
  have hCs : C.size = cap := by rw [← hC]; simp [bytesRow]; omega
  have hCl : C.toList.take s.size = (bytesL s).map (Value.int .u8) := by
    rw [← hC]
    simp only [bytesRow, Array.toList_append, Array.toList_map]
    rw [List.take_append_of_le_length (by simp)]
    rw [List.take_of_length_le (by simp)]
    simp [bytesL]
  have hbl : (bytesL s).length = s.size := by simp [bytesL]
  have hb : Below w.heap.size w (w.drew.alloc (.cells C E (C.size, C.size + 1))) := ((Below.refl _ _).drew).alloc (Nat.le_refl _) _
  have how : Owns (w.drew.alloc (.cells C E (C.size, C.size + 1))) E .byte (.slice (some ⟨w.heap.size, 0, none⟩) s.size cap) (bytesL s) := by
    refine .inr ⟨w.heap.size, cap, C, (C.size, C.size + 1), by rw [hbl], heap_alloc_new w.drew _, Nat.le_refl _, by rw [hbl]; exact hc1.1, hc1.2, by rw [hCs]; simp [EK.size], ?_⟩
    rw [hbl, valsOf_byte, ← hCl]; simp [EK.size]
  obtain ⟨h7, h8⟩ := addRow (r := ⟨E, .byte, bytesL s, true⟩) hh hb hf rfl how (fun g hg => by simp [Value.ownBlock] at hg; omega)
  unfold Oper.wp
  have : (execOp a.eval o).run P w = .ok (.value (.slice (some ⟨w.heap.size, 0, none⟩) s.size cap)) (w.drew.alloc (.cells C E (C.size, C.size + 1))) := by
    simp only [execOp, ho, hx]
    simp [hrun]
  rw [this]
  exact h _ _ _ h7 h8 ⟨⟨_, by rw [getK_putAt, if_pos rfl]⟩, by simp [updV]⟩

theorem freeze_turns {g : Nat} {cur : Array Value} {T : TypeId} (hg : w.heap[g]? = some (.cells cur T (0, 0))) :
    (w.freeze ⟨g, cur.size, none⟩ 1).heap[g]? = some (.cells cur T (cur.size, cur.size + 1)) ∧ Turns w (w.freeze ⟨g, cur.size, none⟩ 1) g ∧ ∀ k, k ≠ g → (w.freeze ⟨g, cur.size, none⟩ 1).heap[k]? = w.heap[k]? := by
  have e : w.freeze ⟨g, cur.size, none⟩ 1 = { w with heap := w.heap.modify g fun
      | .cells c elem (lo, hi) => .cells c elem (if lo == hi then (cur.size, cur.size + 1) else (min lo cur.size, max hi (cur.size + 1)))
      | o => o } := by unfold World.freeze; rw [if_neg (by decide)]; rfl
  rw [e]
  have hk : ∀ k, k ≠ g → (w.heap.modify g fun
      | .cells c elem (lo, hi) => .cells c elem (if lo == hi then (cur.size, cur.size + 1) else (min lo cur.size, max hi (cur.size + 1)))
      | o => o)[k]? = w.heap[k]? := fun k hk => by rw [Array.getElem?_modify, if_neg (fun h => hk h.symm)]
  refine ⟨?_, ⟨rfl, rfl, rfl, by simp, fun k _ h => hk k h⟩, hk⟩
  show (w.heap.modify g _)[g]? = _
  rw [Array.getElem?_modify, if_pos rfl, hg]; rfl
theorem op_convBB {T E : TypeId} {x : Operand} {id : Nat} {T0 : TypeId} {l : List Int} (hh : HeapOK c e st w) (ho : o.op = .convert T T x) (hT : P.underlying T = some (.slice E)) (hE : P.underlying E = some (.int .u8))
    (hr : getK none st.rows id = some ⟨T0, .int .u8, l, true⟩) (hl : l ≠ []) (hx : R st e (.row id) (a.eval x)) : Goes P c st e a w o [] ⟨st.tmps, st.boxes, putAt none st.rows id (some ⟨T0, .byte, l, true⟩), st.ys, st.pin⟩ (.row id) := by
  intro K Q h
  obtain ⟨_, hxv⟩ := hx
  obtain ⟨hpos, hro⟩ := hh.row id _ hr
  simp only at hro
  obtain ⟨hown, hmine⟩ := hro
  have hp : Pres st e ⟨st.tmps, st.boxes, putAt none st.rows id (some ⟨T0, .byte, l, true⟩), st.ys, st.pin⟩ e [] := by
    refine pres_of rfl rfl (fun i b hi => ⟨⟨b, hi⟩, rfl⟩) (fun i q _ hq => ⟨?_, rfl⟩)
    rw [getK_putAt]
    by_cases hi : i = id
    · subst hi
      rw [hr] at hq; cases hq
      exact ⟨_, if_pos rfl, rfl, Nat.le_refl _⟩
    · exact ⟨q, by rw [if_neg hi]; exact hq, rfl, Nat.le_refl _⟩
  rcases hown with ⟨_, h0⟩ | ⟨g, cap, cur, fz, hv, hgg, hfz, hnc, hcm, hcs, htake⟩
  · exact absurd h0 hl
  have hfz0 : fz = (0, 0) := hfz
  subst hfz0
  obtain ⟨hg', hturn, hother'⟩ := freeze_turns (w := w) hgg
  have hblk : blkR e st id = some g := by simp [blkR, hr, hv, Value.ownBlock]
  have hRR : ∀ i, blkR e ⟨st.tmps, st.boxes, putAt none st.rows id (some ⟨T0, .byte, l, true⟩), st.ys, st.pin⟩ i = blkR e st i := by
    intro i
    simp only [blkR, getK_putAt]
    by_cases hi : i = id
    · subst hi; simp [hr]
    · simp [hi]
  have hgb : Mine c e.M g := hmine g (by rw [hv]; rfl)
  have hother : ∀ i b, getK none st.boxes i = some b → e.β i ≠ g := by
    intro i b hi heq
    by_cases hko : b.own = true
    · exact hh.apart i id g (by simp [blkB, hi, hko, heq]) hblk
    · have h2 := (hh.box i b hi).2
      simp only [hko] at h2
      exact fixed_ne (heq ▸ h2) hgb
  have hnew : HeapOK c e ⟨st.tmps, st.boxes, putAt none st.rows id (some ⟨T0, .byte, l, true⟩), st.ys, st.pin⟩ (w.freeze ⟨g, cur.size, none⟩ 1) := by
    refine ⟨hturn.frame hgb hh.frame, fun i b hi => ?_, fun i q hq => ?_, hh.injB, fun i j g' h3 h4 => hh.injR i j g' (by rw [← hRR]; exact h3) (by rw [← hRR]; exact h4), fun i j g' h3 h4 => hh.apart i j g' h3 (by rw [← hRR]; exact h4), show c.J st.ys e.M _ from hturn.out hgb hh, hturn.defd hh hgg, hh.defm, hh.mwr, hh.yl, hh.nd, RL_keep hp hh.pin⟩
    · obtain ⟨⟨qs, h3, h4, h5⟩, h6⟩ := hh.box i b hi
      exact ⟨⟨qs, by rw [hother' _ (hother i b hi)]; exact h3, RL_keep hp h4, h5⟩, h6⟩
    · rw [getK_putAt] at hq
      by_cases hi : i = id
      · rw [if_pos hi] at hq
        subst hi
        obtain rfl := Option.some.inj hq
        refine ⟨hpos, .inr ⟨g, cap, cur, (cur.size, cur.size + 1), hv, hg', Nat.le_refl _, hnc, hcm, hcs, ?_⟩, hmine⟩
        rw [valsOf_byte, ← valsOf_u8]; exact htake
      · rw [if_neg hi] at hq
        obtain ⟨h3, h4⟩ := hh.row i q hq
        refine ⟨h3, ?_⟩
        cases hro : q.own
        · rw [hro] at h4; exact h4
        · rw [hro] at h4
          refine ⟨h4.1.same (fun g' hg2 _ => hother' _ (fun h => hi (hh.injR i id g (by simp [blkR, hq, hro, hg2, h]) hblk))), h4.2⟩
  have hsh : w.shape? g = some (T0, cur.size) := by unfold World.shape?; rw [hgg]
  unfold Oper.wp
  have : (execOp a.eval o).run P w = .ok (.value (e.ρ id)) (w.freeze ⟨g, cur.size, none⟩ 1) := by
    simp only [execOp, ho, hxv, hv]
    simp [convert, run_underlying hT, run_underlying hE, markStringish, hsh]
  rw [this]
  exact h _ _ _ hnew hp ⟨⟨_, by show getK none (putAt _ _ _ _) _ = _; rw [getK_putAt, if_pos rfl]⟩, rfl⟩

theorem op_convBS {src dst E : TypeId} {x : Operand} {id : Nat} {r : Row} {l : List Int} (hh : HeapOK c e st w) (ho : o.op = .convert src dst x) (hs : P.underlying src = some (.slice E)) (hd : P.underlying dst = some .string) (he : P.underlying E = some (.int .u8))
    (hr : getK none st.rows id = some r) (hl : valsOf r.k r.l = l.map (Value.int .u8)) (hlen : l.length = r.l.length) (hx : R st e (.row id) (a.eval x)) : Goes P c st e a w o [] st (.s (bytesOf l)) := by
  obtain ⟨_, hxv⟩ := hx
  have hrun : (convert src dst (e.ρ id)).run P w = .ok (.string (bytesOf l)) w := by
    rcases row_cells hh hr with ⟨hnil, hv⟩ | ⟨p, cc, hv, _, hcells⟩
    · rw [hv, run_convert_bytes_string w src dst E none 0 0 hs he hd]
      have : l = [] := List.eq_nil_of_length_eq_zero (by rw [hlen, hnil]; rfl)
      subst this
      simp [Conv.bytesToString, bytesOf]
    · rw [hv, run_convert_bytes_string w src dst E (some p) _ cc hs he hd]
      have hld := run_loadCells_list (P := P) w p (l.map (Value.int .u8)) (fun j v hj => hcells j v (by rw [hl]; exact hj))
      simp only [List.length_map, hlen] at hld
      exact run_bytesToString w p r.l.length cc l hld
  refine goes_value (v := .string (bytesOf l)) hh ?_ rfl
  simp only [execOp, ho, hxv]
  simp [hrun]

theorem op_convNS {src dst E : TypeId} {x : Operand} (hh : HeapOK c e st w) (ho : o.op = .convert src dst x) (hs : P.underlying src = some (.slice E)) (hd : P.underlying dst = some .string) (he : P.underlying E = some (.int .u8))
    (hx : R st e .nils (a.eval x)) : Goes P c st e a w o [] st (.s ByteArray.empty) := by
  have hxv : a.eval x = .slice none 0 0 := hx
  refine goes_value (v := .string ByteArray.empty) hh ?_ rfl
  have hrun : (convert src dst (.slice none 0 0)).run P w = .ok (.string ByteArray.empty) w := by
    rw [run_convert_bytes_string w src dst E none 0 0 hs he hd]; simp [Conv.bytesToString]
  simp only [execOp, ho, hxv]
  simp [hrun]

def CR.eff (cr : CR) (fb fr : Nat) : Eff := .call (cr.res.inst fb fr).2.1 (cr.res.inst fb fr).2.2 cr.kill cr.setr
def ConOK (P : Program) (G : Nat → World → Prop) (f : FuncId) (con : Con) : Prop :=
  ∀ (c : Ctx) (e : Env) (st : St) (w : World) (avs : List AV) (rvs : List RV) (cr : CR) (vals : List Value) (fb fr : Nat),
    G c.g0 w → HeapOK c e st w → allRes (resolve st) avs = some rvs → RL st e avs vals → con rvs = some cr → (∀ p ∈ cr.pre, p) →
    (∀ j, fb ≤ j → j < fb + (cr.res.inst fb fr).2.1.length → getK none st.boxes j = none) → (∀ j, fr ≤ j → j < fr + (cr.res.inst fb fr).2.2.length → getK none st.rows j = none) →
    (∃ fn, P.funcs[f]? = some fn ∧ fn.body.isSome ∧ (fn.name == "runtime.NumGoroutine") = false) ∧
    Calls P f vals.toArray w fun en w' => ∃ v e', en = .returned v ∧
      HeapOK c e' ((cr.eff fb fr).apply fb fr st) w' ∧ Pres st e ((cr.eff fb fr).apply fb fr st) e' cr.kill ∧
      R ((cr.eff fb fr).apply fb fr st) e' (cr.res.inst fb fr).1 v

theorem op_call {G : Nat → World → Prop} {args : Array Operand} {ts : Array TypeId} {x : Operand} {f fb fr : Nat} {caps avs : List AV} {rvs : List RV} {con : Con} {cr : CR} (hh : HeapOK c e st w) (hG : G c.g0 w) (ho : o.op = .call { callee := .value x, args := args, argTypes := ts })
    (hx : R st e (.fn f caps) (a.eval x)) (hargs : RL st e avs (args.toList.map a.eval)) (hcon : ConOK P G f con) (hres : allRes (resolve st) (avs ++ caps) = some rvs) (hcr : con rvs = some cr) (hpre : ∀ p ∈ cr.pre, p)
    (hfb : ∀ j, fb ≤ j → j < fb + (cr.res.inst fb fr).2.1.length → getK none st.boxes j = none) (hf : ∀ j, fr ≤ j → j < fr + (cr.res.inst fb fr).2.2.length → getK none st.rows j = none) :
    ∀ (K : Act → World → Prop) (Q : Exit → Act → World → Prop), (∀ v w' e', HeapOK c e' ((cr.eff fb fr).apply fb fr st) w' → Pres st e ((cr.eff fb fr).apply fb fr st) e' cr.kill →
      R ((cr.eff fb fr).apply fb fr st) e' (cr.res.inst fb fr).1 v → K (a.put o.dst v) w') → o.wp P a w K Q := by
  intro K Q h
  obtain ⟨vs, hv, hl⟩ := hx
  obtain ⟨⟨fn, hfn, hbody, hname⟩, hcalls⟩ := hcon c e st w (avs ++ caps) rvs cr (args.toList.map a.eval ++ vs) fb fr hG hh hres (RL_append hargs hl) hcr hpre hfb hf
  unfold Oper.wp
  have hargs' : args.map a.eval ++ vs.toArray = (args.toList.map a.eval ++ vs).toArray := Array.ext' (by simp)
  have : (execOp a.eval o).run P w = .ok (.enter f (args.toList.map a.eval ++ vs).toArray) w := by
    have hb : fn.body ≠ none := by intro hb; rw [hb] at hbody; cases hbody
    have hne : fn.name ≠ "runtime.NumGoroutine" := by simpa using hname
    simp only [execOp, ho, Go.resolve, hv, Deferred.ofValue, invoke, callFunc]
    simp [hfn, hne, hb, hargs']
  rw [this]
  simp only [Oper.upon]
  refine hcalls.mono ?_
  rintro en w' ⟨v, e', rfl, h1, h2, h3⟩
  exact h v w' e' h1 h2 h3
end
end Go.X

namespace Go.X
open Go.RowKit Go.Lib

section
variable {P : Program} (w : World)
theorem run_append_str (base : Nat) (t u ty e : TypeId) (i : TypeInfo) (z : Value) (ht : P.underlying t = some (.slice e)) (hu : P.underlying u = some .string) (hi : P.info? e = some i) (hz : i.zero = some z) (hz1 : z.cells.size = 1)
    (hsize : i.size = 1) (hby : i.bytes = 1)
    (v : Value) (n : Nat) (xs : List Value) (hown : w.ownsRow base e 1 v n xs) (s : ByteArray)
    (h63 : n + s.size ≤ maxLen) (hbytes : n + s.size ≤ 140737488355328) (hbase : base ≤ w.heap.size) :
    ∃ v' w', (Builtin.append_ #[t, u] ty #[v, .string s]).run P w = .ok v' w' ∧ w'.ownsRow base e 1 v' (n + s.size) (xs ++ strCells s) ∧ w.grownBy w' v.ownBlock ∧
      (∀ g, v'.ownBlock = some g → v.ownBlock = some g ∨ w.heap.size ≤ g) := by
  have hsmall : n + s.size ≤ 9223372036854775807 := by simp only [maxLen] at h63; omega
  have hxl : xs.length = n := by simpa using hown.1
  have hlen : (xs ++ strCells s).length = (n + s.size) * 1 := by rw [List.length_append, hxl, strCells_length, Nat.mul_one]
  have grown : ∀ (old : Nat), old < n + s.size → ∀ (row : Option Nat),
      (w.drew.alloc (.cells (xs.toArray ++ (strCells s).toArray ++ Builtin.zeroCells z.cells (grownCap w (n + s.size) old e - (n + s.size))) e)).ownsRow base e 1
        (.slice (some ⟨w.heap.size, 0, none⟩) (n + s.size) (grownCap w (n + s.size) old e)) (n + s.size) (xs ++ strCells s) ∧
      w.grownBy (w.drew.alloc (.cells (xs.toArray ++ (strCells s).toArray ++ Builtin.zeroCells z.cells (grownCap w (n + s.size) old e - (n + s.size))) e)) row := by
    intro old ho row
    have hge := grownCap_ge w (n + s.size) old e
    have hcm : grownCap w (n + s.size) old e ≤ maxLen := grownCap_le_maxLen w (n + s.size) old e h63
    refine ⟨⟨hlen, .inr ⟨w.heap.size, _, _, rfl, hbase, heap_alloc_new w.drew _, hge, hcm, ?_, ?_⟩⟩, ⟨rfl, rfl, rfl, by simp, fun k hk _ => by first | exact Go.heap_alloc_old w.drew _ k hk | exact Go.RowKit.heap_alloc_old w.drew _ hk | exact heap_alloc_old w.drew _ hk⟩⟩
    · simp only [Array.size_append, List.size_toArray, size_zeroCells, hz1, hxl, strCells_length]
      omega
    · simp only [Array.toList_append, List.append_assoc]
      rw [← List.append_assoc, ← hlen]
      exact List.take_left
  rcases hown.2 with ⟨rfl, rfl⟩ | ⟨g, cap, cur, rfl, hbg, hg, hnc, hcm, hcs, htake⟩
  · have hx : xs = [] := List.eq_nil_of_length_eq_zero hxl
    subst hx
    by_cases hm : s.size = 0
    · have hn : strCells s = [] := List.eq_nil_of_length_eq_zero (by rw [strCells_length]; exact hm)
      refine ⟨.slice none 0 0, w, ?_, by rw [hm, hn]; exact World.ownsRow_nil w base e 1, ⟨rfl, rfl, rfl, Nat.le_refl _, fun _ _ _ => rfl⟩, fun g hg => .inl hg⟩
      have hf := run_firstCells_string (P := P) w 1 s
      rw [hm] at hf
      simp [Builtin.append_, run_underlying ht, run_underlying hu, sizeOf, typeInfo, hi, hsize, Builtin.lenOf, hm, hf]
    · have hr := run_append_nil_string (P := P) w t u ty e i z ht hu hi hz s (by omega) (by omega) (by rw [hby]; omega)
      have hgr := grown 0 (by omega) (Value.ownBlock (.slice none 0 0))
      simp only [Nat.zero_add, List.nil_append, Array.empty_append] at hgr ⊢
      have e1 : (s.data.map fun b => Value.int .u8 b.toNat) = (strCells s).toArray := by
        apply Array.ext'
        simp [strCells]
      rw [e1] at hr
      exact ⟨_, _, hr, hgr.1, hgr.2, fun g hg => .inr (by simp [Value.ownBlock] at hg; omega)⟩
  · by_cases hroom : n + s.size ≤ cap
    · have hcs' : cur.size = cap := by simpa using hcs
      have hr := run_append_room_string (P := P) w t u ty e i ht hu hi hsize g n cap cur hg s hroom (by omega)
      refine ⟨_, _, hr, ⟨hlen, .inr ⟨g, cap, _, rfl, hbg, setRow_heap w g cur _ e _ hg, hroom, hcm, ?_, ?_⟩⟩, ⟨rfl, rfl, rfl, by simp, fun k _ hk => setRow_other w g k _ (fun e => hk (by simp [Value.ownBlock, e]))⟩, fun g' hg' => .inl hg'⟩
      · simp only [List.size_toArray, List.length_append, List.length_take, List.length_drop, Array.length_toList, strCells_length]
        omega
      · have ht' : cur.toList.take n = xs := by simpa using htake
        rw [ht', ← hlen]
        exact List.take_left
    · have holds : ∀ j u, xs[j]? = some u → w.cell? ((⟨g, 0, none⟩ : Addr).add j) = some u := hown.cells (g := g) rfl
      have hr := run_append_grow_string (P := P) w t u ty e i z ht hu hi hz ⟨g, 0, none⟩ n cap xs (by rw [hsize]; simpa using hxl) holds s (by omega) (by omega) (by rw [hby]; exact growslice_fits (by omega) (by omega))
      have hgr := grown cap (by omega) (Value.ownBlock (.slice (some ⟨g, 0, none⟩) n cap))
      exact ⟨_, _, hr, hgr.1, hgr.2, fun g hg => .inr (by simp [Value.ownBlock] at hg; omega)⟩
end

section
variable {P : Program} {c : Ctx} {st : St} {e : Env} {a : Act} {w w' : World} {o : Oper} {av : AV}
theorem strCells_vals (s : ByteArray) : strCells s = valsOf (.int .u8) (bytesL s) := by
  rw [valsOf_u8]
  unfold strCells bytesL
  rw [List.map_map]; rfl
theorem op_appendS {id : Nat} {x y : Operand} {t u E : TypeId} {l : List Int} {s : ByteArray} {de : TD} (hh : HeapOK c e st w) (ho : o.op = .call { callee := .builtin .append, args := #[x, y], argTypes := #[t, u] })
    (hT : P.underlying t = some (.slice E)) (hU : P.underlying u = some .string) (hd : TDOK P E de) (hek : de.ek = some (.int .u8)) (hby : de.bytes = 1) (hr : getK none st.rows id = some ⟨E, .int .u8, l, true⟩)
    (hx : R st e (.row id) (a.eval x)) (hy : a.eval y = .string s) (h1 : l.length + s.size ≤ 4000000000) :
    Goes P c st e a w o [id] ⟨mapK (sweep [id]) st.tmps, mapK (sweepBox [id]) st.boxes, putAt none st.rows id (some ⟨E, .int .u8, l ++ bytesL s, true⟩), st.ys, mapK (sweep [id]) st.pin⟩ (.row id) := by
  intro K Q h
  obtain ⟨i, hi, his, hib, z, hz, _, _, hzl, _⟩ := hd.info
  have hds := (hd.ek _ hek).1
  obtain ⟨_, hxv⟩ := hx
  obtain ⟨hpos, hro⟩ := hh.row id _ hr
  simp only at hro
  obtain ⟨how0, hbase⟩ := hro
  have how := how0.to_row (by simp)
  have hsz1 : de.size = 1 := hds
  obtain ⟨v', w', h3, h4, h5, h6⟩ := run_append_str (P := P) w 0 t u o.type E i z hT hU hi hz (by rw [← Array.length_toList, hzl, hsz1]) (his.trans hsz1) (hib.trans hby) (e.ρ id) l.length (valsOf (.int .u8) l) how s (by unfold maxLen; omega) (by omega) (Nat.zero_le _)
  have hown' : Owns w' E (.int .u8) v' (l ++ bytesL s) := by
    refine Owns.of_row (b := 0) (by simp) ?_
    rw [List.length_append, valsOf_append, ← strCells_vals, show (bytesL s).length = s.size by simp [bytesL]]
    exact h4
  obtain ⟨h7, h8⟩ := growRow hh hr rfl h5 hown' h6
  unfold Oper.wp
  have : (execOp a.eval o).run P w = .ok (.value v') w' := by
    simp only [execOp, ho, invoke, builtin]
    simp [hxv, hy, Go.resolve, h3]
  rw [this]
  exact h _ _ _ h7 h8 ⟨⟨_, by rw [getK_putAt, if_pos rfl]⟩, by simp [updV]⟩
theorem op_sliceView {T E : TypeId} {x y : Operand} {id lo0 hi0 : Nat} {ex : Bool} {r : Row} {d : TD} {k : IntKind} {n : Int} (hh : HeapOK c e st w) (ho : o.op = .slice T x (some y) none none) (hT : P.underlying T = some (.slice E)) (hd : TDOK P E d) (hr : getK none st.rows id = some r)
    (hs : d.size = r.k.size) (hx : R st e (.view id lo0 hi0 ex) (a.eval x)) (hy : a.eval y = .int k n) (h0 : 0 ≤ n) (h1 : n ≤ (hi0 - lo0 : Nat)) :
    Goes P c st e a w o [] st (.view id (lo0 + n.toNat) hi0 false) := by
  obtain ⟨r', hr', h3, h4, p, m, cc, p', c', hρ, hv, h7, h8, h9, h10⟩ := hx
  rw [hr] at hr'; cases hr'
  have hz := run_size (w := w) hd
  have hzpos := size_pos r.k
  have hrun : (execOp a.eval o).run P w = .ok (.value (.slice (if c' = n.toNat then p' else p'.map (·.add (n.toNat * d.size))) (hi0 - lo0 - n.toNat) (c' - n.toNat))) w := by
    have h5 : n ≤ ((hi0 - lo0 : Nat) : Int) := h1
    simp [execOp, ho, hv, hy, Instr.sliceAt, Instr.slice, run_underlying hT, Instr.sliceBounds, Instr.sliceBound, asIntOf, h0, h5, hz]
  refine goes_value hh hrun ⟨r, hr, by omega, h4, p, m, cc, _, c' - n.toNat, hρ, by rw [show hi0 - (lo0 + n.toNat) = hi0 - lo0 - n.toNat by omega], ?_, ?_, ?_, by omega⟩
  · intro hlt
    obtain ⟨q, rfl, rfl⟩ := h7 (by omega)
    refine ⟨q, rfl, ?_⟩
    rw [if_neg (by omega), hs]
    simp only [Option.map_some, addr_add_add]
    rw [Nat.add_mul]
  · intro _ hex; cases hex
  · intro hnone
    have : p' = none := by split at hnone; exact hnone; cases p' <;> simp_all
    have := h9 this
    omega
end
end Go.X

namespace Go.X
open Go.RowKit

def Eff.kills : Eff → List Nat
  | .call _ _ k _ => k
  | .app id _ => [id]
  | _ => []
def Eff.newsB : Eff → Nat
  | .call bs _ _ _ => bs.length
  | .box _ => 1
  | _ => 0
def Eff.news : Eff → Nat
  | .call _ rs _ _ => rs.length
  | _ => 0

section
variable {P : Program} {G : Nat → World → Prop} {TT : TypeId → Option TD} {C : Nat → Option Con} {c : Ctx} {st : St} {e : Env} {a : Act} {w : World} {o : Oper}

theorem look_box {v : AV} {id off : Nat} {bx : Box} (h : look st v = some (.box id off bx)) : v = .box id off ∧ getK none st.boxes id = some bx := by
  cases v <;> simp only [look] at h <;> (try (split at h)) <;> simp_all
theorem look_row {v : AV} {id : Nat} {r : Row} (h : look st v = some (.row id r)) : v = .row id ∧ getK none st.rows id = some r := by
  cases v <;> simp only [look] at h <;> (try (split at h)) <;> simp_all
theorem look_view {v : AV} {id lo hi : Nat} {ex : Bool} {r : Row} (h : look st v = some (.view id lo hi ex r)) : v = .view id lo hi ex ∧ getK none st.rows id = some r := by
  cases v <;> simp only [look] at h <;> (try (split at h)) <;> simp_all
theorem look_arrp {v : AV} {id : Nat} {r : Row} (h : look st v = some (.arrp id r)) : v = .arrp id ∧ getK none st.rows id = some r := by
  cases v <;> simp only [look] at h <;> (try (split at h)) <;> simp_all
theorem look_elt {v : AV} {id ix sub : Nat} {r : Row} (h : look st v = some (.elt id ix sub r)) : v = .elt id ix sub ∧ getK none st.rows id = some r := by
  cases v <;> simp only [look] at h <;> (try (split at h)) <;> simp_all
theorem look_a {v u : AV} (h : look st v = some (.a u)) : v = u := by
  cases v <;> simp only [look] at h <;> (try (split at h)) <;> simp_all

theorem appendList_eq {α : Type} (l m : List α) : appendList l m = l ++ m := by
  induction l with
  | nil => rfl
  | cons x l ih => simp [appendList, ih]
theorem listOf_eq (A : Operand → AV) (l : List Operand) : listOf A l = l.map A := by
  induction l with
  | nil => rfl
  | cons x l ih => simp [listOf, ih]
theorem RL_map {A : Operand → AV} {l : List Operand} (h : ∀ x ∈ l, R st e (A x) (a.eval x)) : RL st e (l.map A) (l.map a.eval) := by
  induction l with
  | nil => rfl
  | cons x l ih => exact ⟨_, _, rfl, h x (by simp), ih fun y hy => h y (by simp [hy])⟩

theorem apply_call0 {fb fr : Nat} : Eff.apply fb fr st (.call [] [] [] []) = st := rfl

theorem tr_call {A : Operand → AV} {fb fr : Nat} {av : AV} {pre : List Prop} {eff : Eff} {x : Operand} {args : Array Operand} {ts : Array TypeId} (hC : ∀ f con, C f = some con → ConOK P G f con) (hgood : ∀ w, Frame c w → G c.g0 w)
    (hh : HeapOK c e st w) (ho : o.op = .call { callee := .value x, args := args, argTypes := ts }) (hA : ∀ y ∈ o.op.operands.toList, R st e (A y) (a.eval y))
    {g : Nat} {caps : List AV} (hx : A x = .fn g caps) (htr : callC C (resolve st) fb fr g (appendList (listOf A args.toList) caps) = some ⟨pre, av, eff⟩) (hp : ∀ p ∈ pre, p)
    (hfb : ∀ j, fb ≤ j → j < fb + eff.newsB → getK none st.boxes j = none) (hfr : ∀ j, fr ≤ j → j < fr + eff.news → getK none st.rows j = none) :
    Goes P c st e a w o eff.kills (eff.apply fb fr st) av := by
  rw [ho] at hA
  simp only [Op.operands, Call.operands] at hA
  have hxR := hA x (by simp)
  rw [hx] at hxR
  have hargs : RL st e (listOf A args.toList) (args.toList.map a.eval) := by rw [listOf_eq]; exact RL_map fun y hy => hA y (by simp; exact .inr (by simpa using hy))
  rw [appendList_eq] at htr
  unfold callC at htr
  split at htr
  · rename_i con hcon
    split at htr
    · rename_i rvs hrvs
      split at htr
      · rename_i pre' res kill setr hcr
        have key : ∀ (hpre : ∀ p ∈ pre', p) (hb : ∀ j, fb ≤ j → j < fb + (res.inst fb fr).2.1.length → getK none st.boxes j = none) (hf : ∀ j, fr ≤ j → j < fr + (res.inst fb fr).2.2.length → getK none st.rows j = none),
            Goes P c st e a w o kill (Eff.apply fb fr st (.call (res.inst fb fr).2.1 (res.inst fb fr).2.2 kill setr)) (res.inst fb fr).1 := by
          intro hpre hb hf K Q h
          exact op_call (cr := ⟨pre', res, kill, setr⟩) hh (hgood _ hh.frame) ho hxR hargs (hC g con hcon) hrvs hcr hpre hb hf K Q (fun v w' e' h1 h2 h3 => h v w' e' h1 h2 h3)
        split at htr
        · rename_i v
          split at htr
          · cases htr
            have := key hp (fun j h1 h2 => by simp [RT.inst] at h2; omega) (fun j h1 h2 => by simp [RT.inst] at h2; omega)
            have h2 : Eff.apply fb fr st Eff.none = st := rfl
            rw [h2]
            simpa [RT.inst, apply_call0, Eff.kills] using this
          · cases htr
            have := key hp (fun j h1 h2 => by simp [RT.inst] at h2; omega) (fun j h1 h2 => by simp [RT.inst] at h2; omega)
            simpa [RT.inst, Eff.kills] using this
        · generalize hi : res.inst fb fr = vr at htr key
          obtain ⟨v, bs, rows⟩ := vr
          simp only at htr key
          cases htr
          exact key hp hfb hfr
      · cases htr
    · cases htr
  · cases htr

theorem TT_k (hTT : TTOK P TT) {t : TypeId} {d : TD} {k : TK} (h : TT t = some d) (hk : d.k = k) : TKOK P t k := by
  have := (hTT t d h).k; rwa [hk] at this

theorem tr_pick {A : Operand → AV} {cc x y : Operand} {res : Res} (hh : HeapOK c e st w) (ho : o.op = .pick cc x y) (hA : ∀ z ∈ o.op.operands.toList, R st e (A z) (a.eval z)) (htr : trPick A cc x y = some res) (hp : ∀ p ∈ res.pre, p) :
    res.eff = .none ∧ Goes P c st e a w o [] st res.av := by
  rw [ho] at hA
  have hc := hA cc (by simp [Op.operands])
  have hx := hA x (by simp [Op.operands])
  have hy := hA y (by simp [Op.operands])
  unfold trPick at htr
  split at htr
  · rename_i y'
    split at htr
    · rename_i m g z h1 h2
      cases htr
      rw [h1] at hc
      refine ⟨rfl, op_pick hh ho hc (fun hm => ?_) (fun hm => ?_)⟩
      · subst hm; simp [R, Act.eval]
      · have hg : g = true := hp _ (List.mem_singleton.2 rfl) hm
        subst hm
        rw [h2] at hy
        simpa using hy.1 hg
    · rename_i m g h1 h2
      cases htr
      rw [h1] at hc
      refine ⟨rfl, op_pick hh ho hc (fun hm => ?_) (fun hm => (hp _ (List.mem_singleton.2 rfl) hm).elim)⟩
      subst hm; simp [R, Act.eval]
    · rename_i m z h1 h2
      cases htr
      rw [h1] at hc
      refine ⟨rfl, op_pick hh ho hc (fun hm => ?_) (fun hm => ?_)⟩
      · subst hm; simp [R, Act.eval]
      · subst hm
        rw [h2] at hy
        simpa using hy
    · cases htr
  · rename_i x' _
    split at htr
    · rename_i m g z h1 h2
      cases htr
      rw [h1] at hc
      refine ⟨rfl, op_pick hh ho hc (fun hm => ?_) (fun hm => ?_)⟩
      · have hg : g = true := hp _ (List.mem_singleton.2 rfl) hm
        subst hm
        rw [h2] at hx
        simpa using hx.1 hg
      · subst hm; simp [R, Act.eval]
    · rename_i m g h1 h2
      cases htr
      rw [h1] at hc
      refine ⟨rfl, op_pick hh ho hc (fun hm => (hp _ (List.mem_singleton.2 rfl) hm).elim) (fun hm => ?_)⟩
      subst hm; simp [R, Act.eval]
    · rename_i m z h1 h2
      cases htr
      rw [h1] at hc
      refine ⟨rfl, op_pick hh ho hc (fun hm => ?_) (fun hm => ?_)⟩
      · subst hm
        rw [h2] at hx
        simpa using hx
      · subst hm; simp [R, Act.eval]
    · cases htr
  · cases htr

theorem bound_spec {A : Operand → AV} {lo : Option Operand} {l : Option Int} (hA : ∀ y, lo = some y → R st e (A y) (a.eval y)) (h : bound A lo = some l) :
    (lo = none ∧ l = none) ∨ ∃ y k n, lo = some y ∧ l = some n ∧ a.eval y = .int k n := by
  cases lo with
  | none => simp [bound] at h; exact .inl ⟨rfl, h.symm⟩
  | some y =>
    right
    simp only [bound] at h
    split at h
    · rename_i k n hy
      cases h
      have := hA y rfl
      rw [hy] at this
      exact ⟨y, k, n, rfl, rfl, this⟩
    · cases h

theorem tr_slice {A : Operand → AV} {T : TypeId} {x : Operand} {lo hi : Option Operand} {res : Res} (hTT : TTOK P TT) (hh : HeapOK c e st w) (ho : o.op = .slice T x lo hi none) (hA : ∀ z ∈ o.op.operands.toList, R st e (A z) (a.eval z)) (htr : trSlice TT A T x lo hi = some res) (hp : ∀ p ∈ res.pre, p) :
    res.eff = .none ∧ Goes P c st e a w o [] st res.av := by
  rw [ho] at hA
  have hx := hA x (by simp [Op.operands])
  have hlo : ∀ y, lo = some y → R st e (A y) (a.eval y) := fun y hy => hA y (by simp [Op.operands, hy])
  have hhi : ∀ y, hi = some y → R st e (A y) (a.eval y) := fun y hy => hA y (by simp [Op.operands, hy])
  unfold trSlice at htr
  split at htr
  · rename_i s d hs hd
    rw [hs] at hx
    split at htr
    · rename_i hk
      have hT : P.underlying T = some .string := TT_k hTT hd hk
      split at htr
      · rename_i h1 h2
        cases htr
        rcases bound_spec hlo h1 with ⟨rfl, _⟩ | ⟨_, _, _, _, h3, _⟩
        · rcases bound_spec hhi h2 with ⟨rfl, _⟩ | ⟨_, _, _, _, h3, _⟩
          · exact ⟨rfl, op_sliceS hh ho hT hx rfl rfl (Nat.zero_le _) (Nat.le_refl _)⟩
          · cases h3
        · cases h3
      · rename_i l h1 h2
        cases htr
        have h0 : 0 ≤ l ∧ l ≤ s.size := hp _ (List.mem_singleton.2 rfl)
        rcases bound_spec hlo h1 with ⟨_, h3⟩ | ⟨y, k, n, rfl, h3, h4⟩
        · cases h3
        · cases h3
          rcases bound_spec hhi h2 with ⟨rfl, _⟩ | ⟨_, _, _, _, h3, _⟩
          · exact ⟨rfl, op_sliceS hh ho hT hx ⟨k, l, h4, h0.1, rfl⟩ rfl (by omega) (Nat.le_refl _)⟩
          · cases h3
      · rename_i l h1 h2
        cases htr
        have h0 : 0 ≤ l ∧ l ≤ s.size := hp _ (List.mem_singleton.2 rfl)
        rcases bound_spec hhi h2 with ⟨_, h3⟩ | ⟨y, k, n, rfl, h3, h4⟩
        · cases h3
        · cases h3
          rcases bound_spec hlo h1 with ⟨rfl, _⟩ | ⟨_, _, _, _, h3, _⟩
          · exact ⟨rfl, op_sliceS hh ho hT hx rfl ⟨k, l, h4, h0.1, rfl⟩ (Nat.zero_le _) (by omega)⟩
          · cases h3
      · rename_i l h h1 h2
        cases htr
        have h0 : 0 ≤ h ∧ h ≤ s.size := hp _ (by simp)
        have h0' : 0 ≤ l ∧ l ≤ h := hp _ (by simp)
        rcases bound_spec hhi h2 with ⟨_, h3⟩ | ⟨y, k, n, rfl, h3, h4⟩
        · cases h3
        · cases h3
          rcases bound_spec hlo h1 with ⟨_, h3⟩ | ⟨y', k', n', rfl, h3, h4'⟩
          · cases h3
          · cases h3
            exact ⟨rfl, op_sliceS hh ho hT hx ⟨k', l, h4', h0'.1, rfl⟩ ⟨k, h, h4, h0.1, rfl⟩ (by omega) (by omega)⟩
      · cases htr
    · cases htr
  · cases htr

theorem tr_sliceR {A : Operand → AV} {T : TypeId} {x : Operand} {lo hi mx : Option Operand} {res : Res} (hTT : TTOK P TT) (hh : HeapOK c e st w) (ho : o.op = .slice T x lo hi mx) (hA : ∀ z ∈ o.op.operands.toList, R st e (A z) (a.eval z))
    (htr : trSliceR TT A (look st) T x lo hi mx = some res) (hp : ∀ p ∈ res.pre, p) : res.eff = .none ∧ Goes P c st e a w o [] st res.av := by
  rw [ho] at hA
  have hx := hA x (by simp [Op.operands])
  have hlo : ∀ y, lo = some y → R st e (A y) (a.eval y) := fun y hy => hA y (by simp [Op.operands, hy])
  have hhi : ∀ y, hi = some y → R st e (A y) (a.eval y) := fun y hy => hA y (by simp [Op.operands, hy])
  have hmx : ∀ y, mx = some y → R st e (A y) (a.eval y) := fun y hy => hA y (by simp [Op.operands, hy])
  unfold trSliceR at htr
  split at htr
  · rename_i d hd
    split at htr
    · rename_i E hk
      have hT : P.underlying T = some (.slice E) := TT_k hTT hd hk
      split at htr
      · rename_i de hde
        have hdE := hTT _ _ hde
        split at htr
        · rename_i id r hr
          obtain ⟨he, hr⟩ := look_row hr
          rw [he] at hx
          have hsl := row_shape hh hr
          split at htr
          · rename_i hs
            split at htr
            · rename_i h1 h2
              cases htr
              rcases bound_spec hlo h1 with ⟨rfl, _⟩ | ⟨_, _, _, _, h3, _⟩
              · rcases bound_spec hhi h2 with ⟨rfl, _⟩ | ⟨_, _, _, _, h3, _⟩
                · exact ⟨rfl, op_sliceRow (m := none) hh ho hT hdE hr hs hx hsl rfl rfl rfl (Nat.zero_le _) (Nat.le_refl _)⟩
                · cases h3
              · cases h3
            · rename_i l h1 h2
              cases htr
              have h0 : 0 ≤ l ∧ l ≤ r.l.length := hp _ (List.mem_singleton.2 rfl)
              rcases bound_spec hlo h1 with ⟨_, h3⟩ | ⟨y, k, n, rfl, h3, h4⟩
              · cases h3
              · cases h3
                rcases bound_spec hhi h2 with ⟨rfl, _⟩ | ⟨_, _, _, _, h3, _⟩
                · exact ⟨rfl, op_sliceRow (m := none) hh ho hT hdE hr hs hx hsl ⟨k, l, h4, h0.1, rfl⟩ rfl rfl (by omega) (Nat.le_refl _)⟩
                · cases h3
            · rename_i l h1 h2
              cases htr
              have h0 : 0 ≤ l ∧ l ≤ r.l.length := hp _ (List.mem_singleton.2 rfl)
              rcases bound_spec hhi h2 with ⟨_, h3⟩ | ⟨y, k, n, rfl, h3, h4⟩
              · cases h3
              · cases h3
                rcases bound_spec hlo h1 with ⟨rfl, _⟩ | ⟨_, _, _, _, h3, _⟩
                · exact ⟨rfl, op_sliceRow (m := none) hh ho hT hdE hr hs hx hsl rfl ⟨k, l, h4, h0.1, rfl⟩ rfl (Nat.zero_le _) (by omega)⟩
                · cases h3
            · rename_i l h h1 h2
              cases htr
              have h0 : 0 ≤ h ∧ h ≤ r.l.length := hp _ (by simp)
              have h0' : 0 ≤ l ∧ l ≤ h := hp _ (by simp)
              rcases bound_spec hhi h2 with ⟨_, h3⟩ | ⟨y, k, n, rfl, h3, h4⟩
              · cases h3
              · cases h3
                rcases bound_spec hlo h1 with ⟨_, h3⟩ | ⟨y', k', n', rfl, h3, h4'⟩
                · cases h3
                · cases h3
                  exact ⟨rfl, op_sliceRow (m := none) hh ho hT hdE hr hs hx hsl ⟨k', l, h4', h0'.1, rfl⟩ ⟨k, h, h4, h0.1, rfl⟩ rfl (by omega) (by omega)⟩
            · cases htr
          · cases htr
        · rename_i id r m hr
          obtain ⟨he, hr⟩ := look_row hr
          rw [he] at hx
          have hsl := row_shape hh hr
          split at htr
          · rename_i hs
            split at htr
            · rename_i h n h1 h2 h5
              cases htr
              have h0 : 0 ≤ n ∧ n ≤ r.l.length := hp _ (by simp)
              have h0' : 0 ≤ h ∧ h ≤ n := hp _ (by simp)
              obtain ⟨km, hmR⟩ : ∃ km, a.eval m = .int km n := by
                rcases bound_spec hmx h5 with ⟨h6, _⟩ | ⟨y, k, n', h6, h7, h8⟩
                · cases h6
                · cases h6; cases h7; exact ⟨k, h8⟩
              rcases bound_spec hhi h2 with ⟨_, h3⟩ | ⟨y, k, n', rfl, h3, h4⟩
              · cases h3
              · cases h3
                rcases bound_spec hlo h1 with ⟨rfl, _⟩ | ⟨_, _, _, _, h3, _⟩
                · exact ⟨rfl, op_sliceRow (m := some n.toNat) hh ho hT hdE hr hs hx hsl rfl ⟨k, h, h4, h0'.1, rfl⟩ ⟨km, n, hmR, h0.1, rfl, h0.2, by omega, rfl⟩ (Nat.zero_le _) (by omega)⟩
                · cases h3
            · rename_i l h n h1 h2 h5
              cases htr
              have h0 : 0 ≤ n ∧ n ≤ r.l.length := hp _ (by simp)
              have h0' : 0 ≤ l ∧ l ≤ h ∧ h ≤ n := hp _ (by simp)
              obtain ⟨km, hmR⟩ : ∃ km, a.eval m = .int km n := by
                rcases bound_spec hmx h5 with ⟨h6, _⟩ | ⟨y, k, n', h6, h7, h8⟩
                · cases h6
                · cases h6; cases h7; exact ⟨k, h8⟩
              rcases bound_spec hhi h2 with ⟨_, h3⟩ | ⟨y, k, n', rfl, h3, h4⟩
              · cases h3
              · cases h3
                rcases bound_spec hlo h1 with ⟨_, h3⟩ | ⟨y', k', n', rfl, h3, h4'⟩
                · cases h3
                · cases h3
                  exact ⟨rfl, op_sliceRow (m := some n.toNat) hh ho hT hdE hr hs hx hsl ⟨k', l, h4', h0'.1, rfl⟩ ⟨k, h, h4, by omega, rfl⟩ ⟨km, n, hmR, h0.1, rfl, h0.2, by omega, rfl⟩ (by omega) (by omega)⟩
            · cases htr
          · cases htr
        · rename_i id lo0 hi0 ex r hr
          obtain ⟨he, hr⟩ := look_view hr
          rw [he] at hx
          split at htr
          · rename_i hs
            split at htr
            · rename_i l h1 h2
              cases htr
              have h0 : 0 ≤ l ∧ l ≤ (hi0 - lo0 : Nat) := hp _ (List.mem_singleton.2 rfl)
              rcases bound_spec hlo h1 with ⟨_, h3⟩ | ⟨y, k, n, rfl, h3, h4⟩
              · cases h3
              · cases h3
                rcases bound_spec hhi h2 with ⟨rfl, _⟩ | ⟨_, _, _, _, h3, _⟩
                · exact ⟨rfl, op_sliceView hh ho hT hdE hr hs hx h4 h0.1 h0.2⟩
                · cases h3
            · cases htr
          · cases htr
        · cases htr
      · cases htr
    · cases htr
  · cases htr
end
end Go.X

namespace Go.X
open Go.RowKit

section
variable {P : Program} {G : Nat → World → Prop} {TT : TypeId → Option TD} {C : Nat → Option Con} {Y : List (List AV) → List AV → Option (Prop × Bool)} {c : Ctx} {st : St} {e : Env} {a : Act} {w : World} {o : Oper}

theorem tr_append {A : Operand → AV} {fb fr : Nat} {x y : Operand} {t : TypeId} {res : Res} (hTT : TTOK P TT) (hh : HeapOK c e st w) (ho : o.op = .call { callee := .builtin .append, args := #[x, y], argTypes := #[t, t] }) (hA : ∀ z ∈ o.op.operands.toList, R st e (A z) (a.eval z))
    (htr : trAppend TT A (look st) fr x y t = some res) (hp : ∀ p ∈ res.pre, p) (hfr : ∀ j, fr ≤ j → j < fr + res.eff.news → getK none st.rows j = none) : Goes P c st e a w o res.eff.kills (res.eff.apply fb fr st) res.av := by
  rw [ho] at hA
  have hx := hA x (by simp [Op.operands, Call.operands])
  have hy := hA y (by simp [Op.operands, Call.operands])
  unfold trAppend at htr
  split at htr
  · rename_i sv d hsv hd
    split at htr
    · rename_i r' E hrl hk
      have hT : P.underlying t = some (.slice E) := TT_k hTT hd hk
      split at htr
      · rename_i de hde
        split at htr
        · rename_i id r hr
          obtain ⟨he, hr⟩ := look_row hr
          rw [he] at hx
          split at htr
          · rename_i hown
            split at htr
            · rename_i m hm
              split at htr
              · rename_i hc
                cases htr
                exact op_append hh ho hT (hTT _ _ hde) hc.1 hc.2.1 hr hown hc.2.2 hsv hrl hm hx hy (hp _ (by simp)) (hp _ (by simp))
              · cases htr
            · cases htr
          · cases htr
        · rename_i hr
          have he := look_a hr
          rw [he] at hx
          split at htr
          · rename_i hc
            cases htr
            exact op_append_nils hh ho hT (hTT _ _ hde) hc.1 hc.2 hsv hrl (hfr fr (Nat.le_refl _) (by simp [Eff.news])) hx hy (hp _ (by simp)) (hp _ (by simp))
          · cases htr
        · cases htr
      · cases htr
    · cases htr
  · cases htr

theorem tr_appendS {A : Operand → AV} {fb fr : Nat} {x y : Operand} {t u : TypeId} {res : Res} (hTT : TTOK P TT) (hh : HeapOK c e st w) (ho : o.op = .call { callee := .builtin .append, args := #[x, y], argTypes := #[t, u] }) (hA : ∀ z ∈ o.op.operands.toList, R st e (A z) (a.eval z))
    (htr : trAppendS TT A (look st) x y t u = some res) (hp : ∀ p ∈ res.pre, p) : Goes P c st e a w o res.eff.kills (res.eff.apply fb fr st) res.av := by
  rw [ho] at hA
  have hx := hA x (by simp [Op.operands, Call.operands])
  have hy := hA y (by simp [Op.operands, Call.operands])
  unfold trAppendS at htr
  split at htr
  · rename_i s d d' hs hd hd'
    rw [hs] at hy
    split at htr
    · rename_i E hk hk'
      have hT : P.underlying t = some (.slice E) := TT_k hTT hd hk
      have hU : P.underlying u = some .string := TT_k hTT hd' hk'
      split at htr
      · rename_i de hde
        split at htr
        · rename_i id T0 l hr
          obtain ⟨he, hr⟩ := look_row hr
          rw [he] at hx
          split at htr
          · rename_i hc
            cases htr
            obtain ⟨h1, h2, rfl⟩ := hc
            exact op_appendS hh ho hT hU (hTT _ _ hde) h1 h2 hr hx hy (hp _ (by simp))
          · cases htr
        · cases htr
      · cases htr
    · cases htr
  · cases htr

theorem tr_builtin {A : Operand → AV} {fb fr : Nat} {cl : Call} {b : Builtin} {res : Res} (hTT : TTOK P TT) (hh : HeapOK c e st w) (ho : o.op = .call cl) (hcl : cl.callee = .builtin b) (hA : ∀ z ∈ o.op.operands.toList, R st e (A z) (a.eval z))
    (htr : trBuiltin TT A (look st) fr b cl.args.toList cl.argTypes.toList = some res) (hp : ∀ p ∈ res.pre, p) (hfr : ∀ j, fr ≤ j → j < fr + res.eff.news → getK none st.rows j = none) : Goes P c st e a w o res.eff.kills (res.eff.apply fb fr st) res.av := by
  obtain ⟨callee, args, ts⟩ := cl
  simp only at hcl htr
  subst hcl
  unfold trBuiltin at htr
  split at htr
  · rename_i x t hargs hts
    obtain rfl : args = #[x] := Array.ext' (by simpa using hargs)
    obtain rfl : ts = #[t] := Array.ext' (by simpa using hts)
    have hA' := hA
    rw [ho] at hA'
    have hx := hA' x (by simp [Op.operands, Call.operands])
    split at htr
    · unfold trLen at htr
      split at htr
      · rename_i s d hs hd
        rw [look_a hs] at hx
        split at htr
        · rename_i hk; cases htr; exact op_len_s hh ho rfl rfl (TT_k hTT hd hk) hx
        · cases htr
      · rename_i id r d hr hd
        obtain ⟨he, hr⟩ := look_row hr
        rw [he] at hx
        split at htr
        · rename_i hk; cases htr; exact op_len_row hh ho rfl rfl (TT_k hTT hd hk) hr hx
        · cases htr
      · rename_i id lo hi ex r d hr hd
        obtain ⟨he, hr⟩ := look_view hr
        rw [he] at hx
        split at htr
        · rename_i hk; cases htr; exact op_len_view hh ho rfl rfl (TT_k hTT hd hk) hx
        · cases htr
      · rename_i d hs hd
        rw [look_a hs] at hx
        split at htr
        · rename_i hk; cases htr; exact op_len_nils hh ho rfl rfl (TT_k hTT hd hk) hx
        · cases htr
      · cases htr
    · unfold trClear at htr
      split at htr
      · rename_i id lo hi ex r d hr hd
        obtain ⟨he, hr⟩ := look_view hr
        rw [he] at hx
        split at htr
        · rename_i E hk
          split at htr
          · rename_i de hde
            split at htr
            · rename_i k hek
              split at htr
              · rename_i hc
                cases htr
                obtain ⟨hc1, hc2, rfl⟩ := hc
                exact op_clear hh ho (TT_k hTT hd hk) (hTT _ _ hde) hek hr hc1 hx (hp _ (List.mem_singleton.2 rfl))
              · cases htr
            · cases htr
          · cases htr
        · cases htr
      · cases htr
    · cases htr
  · rename_i x y hargs
    obtain rfl : args = #[x, y] := Array.ext' (by simpa using hargs)
    have hA' := hA
    rw [ho] at hA'
    have hx := hA' x (by simp [Op.operands, Call.operands])
    have hy := hA' y (by simp [Op.operands, Call.operands])
    split at htr
    · split at htr
      · rename_i k m k' n h1 h2
        rw [h1] at hx; rw [h2] at hy
        split at htr
        · rename_i hk; subst hk; cases htr; exact op_min hh ho rfl hx hy
        · cases htr
      · cases htr
    · split at htr
      · rename_i k m k' n h1 h2
        rw [h1] at hx; rw [h2] at hy
        split at htr
        · rename_i hk; subst hk; cases htr; exact op_max hh ho rfl hx hy
        · cases htr
      · cases htr
    · split at htr
      · rename_i t t' hts
        obtain rfl : ts = #[t, t'] := Array.ext' (by simpa using hts)
        split at htr
        · rename_i htt
          subst htt
          exact tr_append hTT hh ho hA htr hp hfr
        · exact tr_appendS hTT hh ho hA htr hp
      · cases htr
    · cases htr
  · cases htr

theorem op_indexA {T E m : Nat} {x i : Operand} {l : List AV} {k : IntKind} {n : Int} {de : TD} (hh : HeapOK c e st w) (ho : o.op = .index T x i) (hT : P.underlying T = some (.array m E)) (hde : TDOK P E de) (hx : R st e (.agg l) (a.eval x)) (hi : a.eval i = .int k n)
    (hk : de.k.isAgg = false) (h1 : de.size = 1) (h0 : 0 ≤ n) (hn : n < m) (hl : n.toNat < l.length) : Goes P c st e a w o [] st (getK .any l n.toNat) := by
  obtain ⟨vs, hv, hvs⟩ := hx
  have hs := run_size (w := w) hde
  have hp := part_run (w := w) hde vs n.toNat
  have hlen := RL_length hvs
  have hvn : vs[n.toNat]? = some vs[n.toNat] := List.getElem?_eq_getElem (by omega)
  rw [hk, hvn] at hp
  simp only [Bool.false_eq_true, if_false] at hp
  refine goes_value (v := vs[n.toNat]) hh ?_ ?_
  · simp [execOp, ho, hv, hi, Instr.index, asIntOf, run_underlying hT, h0, hn, hs, h1, hp]
  · have := RL_get hvs n.toNat
    rwa [hvn] at this

set_option maxHeartbeats 1000000 in
theorem tr_goes {A : Operand → AV} {fb fr : Nat} {av : AV} {pre : List Prop} {eff : Eff} (hny : ∀ l, eff ≠ .yield l) (hTT : TTOK P TT) (hC : ∀ f con, C f = some con → ConOK P G f con) (hgood : ∀ w, Frame c w → G c.g0 w)
    (hh : HeapOK c e st w) (hA : ∀ y ∈ o.op.operands.toList, R st e (A y) (a.eval y)) (htr : tr TT C Y A (look st) (resolve st) st.ys fb fr o.op = some ⟨pre, av, eff⟩) (hp : ∀ p ∈ pre, p)
    (hfb : ∀ j, fb ≤ j → j < fb + eff.newsB → getK none st.boxes j = none) (hfr : ∀ j, fr ≤ j → j < fr + eff.news → getK none st.rows j = none) : Goes P c st e a w o eff.kills (eff.apply fb fr st) av := by
  cases hop : o.op with
  | move x =>
    rw [hop] at htr hA; simp only [tr, Option.some.injEq, Res.mk.injEq] at htr; obtain ⟨rfl, rfl, rfl⟩ := htr
    exact op_move hh (.inl hop) (hA x (by simp [Op.operands]))
  | assign x =>
    rw [hop] at htr hA; simp only [tr, Option.some.injEq, Res.mk.injEq] at htr; obtain ⟨rfl, rfl, rfl⟩ := htr
    exact op_move hh (.inr hop) (hA x (by simp [Op.operands]))
  | pick cc x y =>
    have htr' := htr
    rw [hop] at htr'; simp only [tr] at htr'
    obtain ⟨h1, h2⟩ := tr_pick hh hop hA htr' hp
    simp only at h1; subst h1
    exact h2
  | alloc T =>
    rw [hop] at htr; simp only [tr] at htr
    split at htr
    · rename_i d hd
      split at htr
      · rename_i hbig; cases htr; exact op_alloc hh hop (hTT _ _ hd) hbig (hfb fb (Nat.le_refl _) (by simp [Eff.newsB]))
      · rename_i k n hbig; cases htr; exact op_allocArr hh hop (hTT _ _ hd) hbig (hfr fr (Nat.le_refl _) (by simp [Eff.news]))
    · cases htr
  | box T x =>
    rw [hop] at htr hA; simp only [tr] at htr
    split at htr
    · rename_i d l hd hl
      split at htr
      · cases htr; exact op_box hh hop (hA x (by simp [Op.operands])) hl (hfb fb (Nat.le_refl _) (by simp [Eff.newsB]))
      · cases htr
    · cases htr
  | build T parts =>
    rw [hop] at htr hA; simp only [tr] at htr
    have hA' : ∀ p ∈ parts.toList, R st e (A p.2) (a.eval p.2) := fun p hp => hA p.2 (by simp [Op.operands]; exact ⟨p.1, by simpa using hp⟩)
    split at htr
    · rename_i d hd
      split at htr
      · cases htr
      rename_i hbig
      split at htr
      · rename_i fs hk
        split at htr
        · rename_i places hpl
          split at htr
          · rename_i cells hf; cases htr
            exact op_build_struct hTT hh hop (hTT _ _ hd) hbig hk hpl hA' hf
          · cases htr
        · cases htr
      · rename_i n E hk
        split at htr
        · rename_i de hde
          split at htr
          · rename_i cells hf; cases htr
            exact op_build_arr hh hop (hTT _ _ hd) hbig hk (hTT _ _ hde) hA' hf
          · cases htr
        · cases htr
      · cases htr
    · cases htr
  | buildSlice T len parts =>
    rw [hop] at htr hA; simp only [tr] at htr
    have hA' : ∀ p ∈ parts.toList, R st e (A p.2) (a.eval p.2) := fun p hp => hA p.2 (by simp [Op.operands]; exact ⟨p.1, by simpa using hp⟩)
    split at htr
    · rename_i d hd
      split at htr
      · rename_i E hk
        split at htr
        · rename_i de hde
          split at htr
          · rename_i k hek
            split at htr
            · rename_i l hel
              split at htr
              · rename_i hc
                cases htr
                exact op_buildSlice hh hop (TT_k hTT hd hk) (hTT _ _ hde) hA' hel hc.1 hc.2.1 ((hTT _ _ hde).ek _ hek).2 hc.2.2 (hfr fr (Nat.le_refl _) (by simp [Eff.news]))
              · cases htr
            · cases htr
          · cases htr
        · cases htr
      · cases htr
    · cases htr
  | load T x =>
    rw [hop] at htr hA; simp only [tr] at htr
    have hx := hA x (by simp [Op.operands])
    split at htr
    · rename_i id off bx d hb hd
      obtain ⟨he, hb⟩ := look_box hb
      rw [he] at hx
      split at htr
      · rename_i hk
        split at htr
        · rename_i hc; cases htr; exact op_load_box hh hop (hTT _ _ hd) hb hx (.inl ⟨hk, hc, rfl⟩)
        · cases htr
      · rename_i hk
        split at htr
        · rename_i hc; cases htr; exact op_load_box hh hop (hTT _ _ hd) hb hx (.inr ⟨by simpa using hk, hc, rfl⟩)
        · cases htr
    · rename_i id ix sub r d hr hd
      obtain ⟨he, hr⟩ := look_elt hr
      rw [he] at hx
      split at htr
      · rename_i hk
        split at htr
        · rename_i hc; cases htr; exact op_load_elt hh hop (hTT _ _ hd) hr hx (.inl ⟨hk, hc, rfl⟩)
        · cases htr
      · rename_i hk
        split at htr
        · rename_i hc; cases htr; exact op_load_elt hh hop (hTT _ _ hd) hr hx (.inr ⟨by simpa using hk, hc, rfl⟩)
        · cases htr
    · cases htr
  | store T x y =>
    rw [hop] at htr hA; simp only [tr] at htr
    have hx := hA x (by simp [Op.operands])
    have hy := hA y (by simp [Op.operands])
    split at htr
    · rename_i id off bx d vs hb hd hvs
      obtain ⟨he, hb⟩ := look_box hb
      rw [he] at hx
      split at htr
      · rename_i hc; cases htr
        exact op_store_box hh hop (hTT _ _ hd) hb hc.1 hx hy hvs hc.2.1 hc.2.2
      · cases htr
    · rename_i id ix sub r d vs hr hd hvs
      obtain ⟨he, hr⟩ := look_elt hr
      rw [he] at hx
      split at htr
      · rename_i hc
        split at htr
        · rename_i v hv; cases htr
          rw [hc.2.2.2] at hx
          exact op_store_elt hh hop (hTT _ _ hd) hr hc.1 hx hy hvs hc.2.1 hv
        · cases htr
      · cases htr
    · cases htr
  | nilCheck x =>
    rw [hop] at htr hA; simp only [tr] at htr
    have hx := hA x (by simp [Op.operands])
    split at htr
    · rename_i id off h; cases htr; rw [h] at hx; exact op_nilCheck hh hop hx (.inl ⟨_, _, rfl⟩)
    · rename_i id ix sub h; cases htr; rw [h] at hx; exact op_nilCheck hh hop hx (.inr (.inl ⟨_, _, _, rfl⟩))
    · rename_i f caps h; cases htr; rw [h] at hx; exact op_nilCheck hh hop hx (.inr (.inr ⟨_, _, rfl⟩))
    · cases htr
  | binOp op T x y T' =>
    rw [hop] at htr hA; simp only [tr] at htr
    have hx := hA x (by simp [Op.operands])
    have hy := hA y (by simp [Op.operands])
    split at htr
    · rename_i k m k' n h1 h2
      rw [h1] at hx; rw [h2] at hy
      split at htr
      · split at htr
        · rename_i p v hb; cases htr; exact op_binI hh hop hx hy hb (.inr (.inl rfl)) hp
        · cases htr
      · split at htr
        · rename_i p v hb; cases htr; exact op_binI hh hop hx hy hb (.inr (.inr rfl)) hp
        · cases htr
      · split at htr
        · rename_i hk
          split at htr
          · rename_i p v hb; cases htr; exact op_binI hh hop hx hy hb (.inl hk) hp
          · cases htr
        · cases htr
    · rename_i m n h1 h2
      rw [h1] at hx; rw [h2] at hy
      split at htr
      · rename_i p v hb; cases htr; exact op_binS hh hop hx hy hb hp
      · cases htr
    · rename_i m n h1 h2
      rw [h1] at hx; rw [h2] at hy
      split at htr
      · rename_i d hd
        split at htr
        · rename_i hk; cases htr; exact op_binB hh hop (TT_k hTT hd hk) hx hy (.inl ⟨rfl, rfl⟩)
        · rename_i hk; cases htr; exact op_binB hh hop (TT_k hTT hd hk) hx hy (.inr ⟨rfl, rfl⟩)
        · cases htr
      · cases htr
    · rename_i l m h1 h2
      rw [h1] at hx; rw [h2] at hy
      obtain ⟨us, hxv, hl⟩ := hx
      obtain ⟨vs, hyv, hm⟩ := hy
      split at htr
      · rename_i d hd
        split at htr
        · rename_i k hes hek
          split at htr
          · rename_i u v hu hv
            obtain ⟨us', rfl, hl'⟩ := of_vals k _ _ _ _ hl hu
            obtain ⟨vs', rfl, hm'⟩ := of_vals k _ _ _ _ hm hv
            simp only [RL] at hl' hm'
            subst hl'; subst hm'
            rw [List.append_nil] at hxv hyv
            obtain ⟨hg, he⟩ := (hTT _ _ hd).eqs hes k hek
            split at htr
            · cases htr; exact op_binA hh hop hg (he u v w) hxv hyv (.inl ⟨rfl, rfl⟩)
            · cases htr; exact op_binA hh hop hg (he u v w) hxv hyv (.inr ⟨rfl, rfl⟩)
            · cases htr
          · cases htr
        · cases htr
      · cases htr
    · rename_i tp u h1 h2
      rw [h1] at hx; rw [h2] at hy
      obtain ⟨z, hxv, _⟩ := hx
      split at htr
      · rename_i d hd
        split at htr
        · rename_i hk; cases htr; obtain ⟨ms, hT⟩ := TT_k hTT hd hk; exact op_ifcNil hh hop hT hxv hy (.inl ⟨rfl, rfl⟩)
        · rename_i hk; cases htr; obtain ⟨ms, hT⟩ := TT_k hTT hd hk; exact op_ifcNil hh hop hT hxv hy (.inr ⟨rfl, rfl⟩)
        · cases htr
      · cases htr
    · rename_i h1 h2
      rw [h1] at hx; rw [h2] at hy
      split at htr
      · rename_i d u hd
        split at htr
        · rename_i hk; cases htr; obtain ⟨ms, hT⟩ := TT_k hTT hd hk; exact op_nilNil hh hop hT hx hy (.inl ⟨rfl, rfl⟩)
        · rename_i hk; cases htr; obtain ⟨ms, hT⟩ := TT_k hTT hd hk; exact op_nilNil hh hop hT hx hy (.inr ⟨rfl, rfl⟩)
        · cases htr
      · cases htr
    · cases htr
  | unOp op T x =>
    rw [hop] at htr hA; simp only [tr] at htr
    have hx := hA x (by simp [Op.operands])
    split at htr
    · rename_i m h; cases htr; rw [h] at hx; exact op_not hh hop hx
    · rename_i k m h; cases htr; rw [h] at hx; exact op_neg hh hop hx
    · cases htr
  | convert src dst x =>
    rw [hop] at htr hA; simp only [tr] at htr
    have hx := hA x (by simp [Op.operands])
    split at htr
    · rename_i k m ds dd h hs hd
      rw [h] at hx
      split at htr
      · rename_i k1 k2 h1 h2; cases htr; exact op_convI hh hop (TT_k hTT hs h1) (TT_k hTT hd h2) hx
      · cases htr
    · rename_i m ds dd h hs hd
      rw [h] at hx
      split at htr
      · rename_i h1 h2; cases htr; exact op_convS hh hop (TT_k hTT hs h1) (TT_k hTT hd h2) hx
      · rename_i E h1 h2
        split at htr
        · rename_i de hde
          split at htr
          · rename_i hk; cases htr
            exact op_convSB hh hop (TT_k hTT hs h1) (TT_k hTT hd h2) (TT_k hTT hde hk) hx (hp _ (List.mem_singleton.2 rfl)) (hfr fr (Nat.le_refl _) (by simp [Eff.news]))
          · cases htr
        · cases htr
      · cases htr
    · rename_i ds dd hs hd _ _
      split at htr
      · rename_i E h1 h2
        split at htr
        · rename_i de hde
          split at htr
          · rename_i hk
            split at htr
            · rename_i id r hr
              obtain ⟨he, hr⟩ := look_row hr
              rw [he] at hx
              split at htr
              · rename_i l hl; cases htr
                obtain ⟨h3, h4, h5⟩ := castL_spec hl
                exact op_convBS hh hop (TT_k hTT hs h1) (TT_k hTT hd h2) (TT_k hTT hde hk) hr (by rw [← h4]; exact valsOf_byte l) h5 hx
              · rename_i l _ hl; cases htr
                obtain ⟨h3, h4, h5⟩ := castL_spec hl
                exact op_convBS hh hop (TT_k hTT hs h1) (TT_k hTT hd h2) (TT_k hTT hde hk) hr (by rw [← h4]; exact valsOf_u8 l) h5 hx
              · cases htr
            · rename_i hr
              rw [look_a hr] at hx
              cases htr
              exact op_convNS hh hop (TT_k hTT hs h1) (TT_k hTT hd h2) (TT_k hTT hde hk) hx
            · cases htr
          · cases htr
        · cases htr
      · rename_i E E' h1 h2
        split at htr
        · rename_i de hb hde
          split at htr
          · rename_i id T0 l hk hr
            obtain ⟨he, hr⟩ := look_row hr
            rw [he] at hx
            split at htr
            · cases htr
            · cases htr
              have hsd := Nat.eq_of_beq_eq_true hb
              subst hsd
              exact op_convBB hh hop (TT_k hTT hs h1) (TT_k hTT hde hk) hr (by simp) hx
          · cases htr
        · cases htr
      · cases htr
    · cases htr
  | makeFunc fn first caps =>
    rw [hop] at htr hA; simp only [tr] at htr
    split at htr
    · rename_i f h0; cases htr
      exact op_makeFunc hh hop h0 (by rw [listOf_eq]; exact RL_map fun y hy => hA y (by simp [Op.operands]; exact .inr (by simpa using hy)))
    · cases htr
  | slice T x lo hi mx =>
    have htr' := htr
    rw [hop] at htr'; simp only [tr] at htr'
    split at htr'
    · split at htr'
      · obtain ⟨h1, h2⟩ := tr_slice hTT hh hop hA htr' hp
        simp only at h1; subst h1
        exact h2
      · cases htr'
    · obtain ⟨h1, h2⟩ := tr_sliceR hTT hh hop hA htr' hp
      simp only at h1; subst h1
      exact h2
  | fieldAddr T x f =>
    rw [hop] at htr hA; simp only [tr] at htr
    have hx := hA x (by simp [Op.operands])
    split at htr
    · rename_i id off d h hd
      rw [h] at hx
      split at htr
      · rename_i fs hk
        split at htr
        · rename_i hf
          generalize hg : getK (0, 0) fs f = q at htr
          obtain ⟨oo, ft⟩ := q
          simp only at htr
          split at htr
          · rename_i fd hfd
            split at htr
            · cases htr
            · rename_i h0; cases htr
              obtain ⟨fields, hT, hfs⟩ := TT_k hTT hd hk
              exact op_fieldAddr hh hop hT hfs hf hg (hTT _ _ hfd) h0 (.inl ⟨id, off, hx, rfl⟩)
          · cases htr
        · cases htr
      · cases htr
    · rename_i id ix sub d h hd
      rw [h] at hx
      split at htr
      · rename_i fs hk
        split at htr
        · rename_i hf
          generalize hg : getK (0, 0) fs f = q at htr
          obtain ⟨oo, ft⟩ := q
          simp only at htr
          split at htr
          · rename_i fd hfd
            split at htr
            · cases htr
            · rename_i h0; cases htr
              obtain ⟨fields, hT, hfs⟩ := TT_k hTT hd hk
              exact op_fieldAddr hh hop hT hfs hf hg (hTT _ _ hfd) h0 (.inr ⟨id, ix, sub, hx, rfl⟩)
          · cases htr
        · cases htr
      · cases htr
    · cases htr
  | field T x f =>
    rw [hop] at htr hA; simp only [tr] at htr
    have hx := hA x (by simp [Op.operands])
    split at htr
    · rename_i l d h hd
      rw [h] at hx
      split at htr
      · rename_i fs hk
        split at htr
        · rename_i hf
          generalize hg : getK (0, 0) fs f = q at htr
          obtain ⟨oo, ft⟩ := q
          simp only at htr
          split at htr
          · rename_i fd hfd
            obtain ⟨fields, hT, hfs⟩ := TT_k hTT hd hk
            split at htr
            · rename_i hag
              split at htr
              · rename_i hc; cases htr; exact op_field hh hop hT hfs hf hg (hTT _ _ hfd) hx (.inl ⟨hag, hc, rfl⟩)
              · cases htr
            · rename_i hag
              split at htr
              · rename_i hc; cases htr; exact op_field hh hop hT hfs hf hg (hTT _ _ hfd) hx (.inr ⟨by simpa using hag, hc, rfl⟩)
              · cases htr
          · cases htr
        · cases htr
      · cases htr
    · cases htr
  | indexAddr T x i =>
    rw [hop] at htr hA; simp only [tr] at htr
    have hx := hA x (by simp [Op.operands])
    have hi := hA i (by simp [Op.operands])
    split at htr
    · rename_i id r k n d hr hn hd
      obtain ⟨he, hr⟩ := look_row hr
      rw [he] at hx; rw [hn] at hi
      split at htr
      · rename_i E hk
        split at htr
        · rename_i de hde
          split at htr
          · rename_i hc; cases htr
            exact op_indexAddr hh hop (TT_k hTT hd hk) (hTT _ _ hde) hr hc.1 hx hi (hp _ (List.mem_singleton.2 rfl))
          · cases htr
        · cases htr
      · cases htr
    · rename_i id lo hi' ex r k n d hr hn hd
      obtain ⟨he, hr⟩ := look_view hr
      rw [he] at hx; rw [hn] at hi
      split at htr
      · rename_i E hk
        split at htr
        · rename_i de hde
          split at htr
          · rename_i hc; cases htr
            exact op_indexView hh hop (TT_k hTT hd hk) (hTT _ _ hde) hr hc.1 hx hi (hp _ (List.mem_singleton.2 rfl))
          · cases htr
        · cases htr
      · cases htr
    · rename_i id r k n d hr hn hd
      obtain ⟨he, hr⟩ := look_arrp hr
      rw [he] at hx; rw [hn] at hi
      split at htr
      · rename_i m E hk
        split at htr
        · rename_i de hde
          split at htr
          · rename_i hc; cases htr
            exact op_indexArrp hh hop (TT_k hTT hd hk) (hTT _ _ hde) hr hc.1 hx hi (hp _ (List.mem_singleton.2 rfl))
          · cases htr
        · cases htr
      · cases htr
    · rename_i id off bx k n d hb hn hd
      obtain ⟨he, hb⟩ := look_box hb
      rw [he] at hx; rw [hn] at hi
      split at htr
      · rename_i m E hk
        split at htr
        · rename_i de hde
          split at htr
          · rename_i hc; cases htr
            exact op_indexBox hh hop (TT_k hTT hd hk) (hTT _ _ hde) hb hx hi ⟨hc.2.1, hc.2.2⟩
          · cases htr
        · cases htr
      · cases htr
    · cases htr
  | index T x i =>
    rw [hop] at htr hA; simp only [tr] at htr
    have hx := hA x (by simp [Op.operands])
    have hi := hA i (by simp [Op.operands])
    split at htr
    · rename_i s k n d h1 h2 hd
      rw [h1] at hx; rw [h2] at hi
      split at htr
      · rename_i hk; cases htr; exact op_indexS hh hop (TT_k hTT hd hk) hx hi (hp _ (List.mem_singleton.2 rfl))
      · cases htr
    · rename_i l k n d h1 h2 hd
      rw [h1] at hx; rw [h2] at hi
      split at htr
      · rename_i m E hk
        split at htr
        · rename_i de hde
          split at htr
          · cases htr
          · rename_i hag
            split at htr
            · rename_i hc; cases htr
              exact op_indexA hh hop (TT_k hTT hd hk) (hTT _ _ hde) hx hi (by simpa using hag) hc.1 hc.2.1 hc.2.2.1 hc.2.2.2
            · cases htr
        · cases htr
      · cases htr
    · cases htr
  | extract t ix =>
    rw [hop] at htr hA; simp only [tr] at htr
    have hx := hA t (by simp [Op.operands])
    split at htr
    · rename_i l h
      rw [h] at hx
      split at htr
      · rename_i hc; cases htr; exact op_extract hh hop hx hc
      · cases htr
    · cases htr
  | makeInterface T x =>
    rw [hop] at htr hA; simp only [tr] at htr
    have hx := hA x (by simp [Op.operands])
    split at htr
    · rename_i d hd
      split at htr
      · rename_i fs hk _
        cases htr
        obtain ⟨fields, hT, _⟩ := TT_k hTT hd hk
        exact op_makeIface hh hop (by simp [Program.concrete, hT]) hx
      · rename_i k hk _
        cases htr
        exact op_makeIface hh hop (by have hT := TT_k hTT hd hk; simp only [TKOK] at hT; simp [Program.concrete, hT]) hx
      · rename_i e' hk _
        split at htr
        · rename_i id off hb
          rw [hb] at hx
          cases htr
          exact op_makeIface hh hop (by have hT := TT_k hTT hd hk; simp only [TKOK] at hT; simp [Program.concrete, hT]) hx
        · cases htr
      · cases htr
    · cases htr
  | call cl =>
    have htr' := htr
    rw [hop] at htr'; simp only [tr] at htr'
    split at htr'
    · rename_i f hcl
      split at htr'
      · rename_i g caps hf
        obtain ⟨callee, args, ts⟩ := cl
        simp only at hcl; subst hcl
        exact tr_call hC hgood hh hop hA hf htr' hp hfb hfr
      · split at htr'
        · split at htr'
          · cases htr'; exact absurd rfl (hny _)
          · cases htr'
        · cases htr'
      · cases htr'
    · rename_i b hcl
      exact tr_builtin (fb := fb) hTT hh hop hcl hA htr' hp hfr
    · cases htr'
  | _ => rw [hop] at htr; simp [tr] at htr

def W (r : Option Nat) : Fence := { Fence.wide with round := r }

theorem callsW {r : Option Nat} {n : Nat} {P : Program} {f : FuncId} {args : Array Value} {w : World} {Q : Ending → World → Prop} : CallsIn (W r) n P f args w Q ↔ Calls P f args w Q := callsIn_wide (n := n) (P := P) (f := f) (args := args) (w := w) (R := Q)

theorem wp_in {r : Option Nat} {n : Nat} {K : Act → World → Prop} {Q : Exit → Act → World → Prop} (hd : ∀ cl, o.op ≠ .defer cl) (h : o.wp P a w K Q) : o.wpIn (W r) n P a w K Q := by
  refine ⟨fun _ _ => trivial, ?_⟩
  rw [Oper.semAt_plain (W r) a.eval o hd]
  unfold Oper.wp at h
  generalize (execOp a.eval o).run P w = res at h
  unfold Oper.upon at h
  unfold Oper.uponIn
  split at h
  · exact h
  · exact h
  · exact h
  · exact ⟨(fun h' => by cases h'), callsW.2 h⟩
  · rename_i row args w'
    refine ⟨fun h' => (by cases h'), fun c cs _ => ?_⟩
    obtain ⟨v, w2, h1, h2⟩ := h c cs
    exact ⟨v, w2, h1, stepsIn_wide.2 h2⟩
  · exact h
  · exact h.elim

mutual
def plainVal : AV → Value
  | .i k n => .int k n
  | .b x => .bool x
  | .s x => .string x
  | .agg l => .agg (plainVals l).toArray
  | _ => undef
def plainVals : List AV → List Value
  | [] => []
  | x :: l => plainVal x :: plainVals l
end
mutual
theorem plain_R {v : AV} {x : Value} (hp : v.plain = true) (h : R st e v x) : x = plainVal v := by
  match v with
  | .i k n => exact h
  | .b x => exact h
  | .s x => exact h
  | .agg l =>
    obtain ⟨vs, rfl, hl⟩ := h
    simp only [plainVal]
    congr 2
    exact plainAgg_RL (by simpa [AV.plain] using hp) hl
  | .nilp | .nilf | .nili | .nils | .mp _ | .pt _ | .box .. | .row _ | .view .. | .arrp _ | .elt .. | .fn .. | .yv | .tup _ | .opt .. | .ifc .. | .any => simp [AV.plain] at hp
theorem plainAgg_RL {l : List AV} {vs : List Value} (hp : AV.plain.plainAgg l = true) (h : RL st e l vs) : vs = plainVals l := by
  match l with
  | [] => exact h
  | .i .. :: l =>
    obtain ⟨v, vs', rfl, h1, h2⟩ := h
    simp only [plainVals]
    rw [plain_R (by rfl) h1, plainAgg_RL (by simpa [AV.plain.plainAgg] using hp) h2]
  | .b _ :: l =>
    obtain ⟨v, vs', rfl, h1, h2⟩ := h
    simp only [plainVals]
    rw [plain_R (by rfl) h1, plainAgg_RL (by simpa [AV.plain.plainAgg] using hp) h2]
  | .s _ :: l =>
    obtain ⟨v, vs', rfl, h1, h2⟩ := h
    simp only [plainVals]
    rw [plain_R (by rfl) h1, plainAgg_RL (by simpa [AV.plain.plainAgg] using hp) h2]
  | .mp _ :: _ | .pt _ :: _ | .nilp :: _ | .nilf :: _ | .nili :: _ | .nils :: _ | .box .. :: _ | .row _ :: _ | .view .. :: _ | .arrp _ :: _ | .elt .. :: _ | .fn .. :: _ | .yv :: _ | .agg _ :: _ | .tup _ :: _ | .opt .. :: _ | .ifc .. :: _ | .any :: _ => simp [AV.plain.plainAgg] at hp
end
theorem plain_RL {l : List AV} {vs : List Value} (hp : plainL l = true) (h : RL st e l vs) : vs = plainVals l := by
  induction l generalizing vs with
  | nil => exact h
  | cons x l ih =>
    obtain ⟨v, vs', rfl, h1, h2⟩ := h
    simp only [plainL, Bool.and_eq_true] at hp
    simp only [plainVals]
    rw [plain_R hp.1 h1, ih hp.2 h2]
def YOK (P : Program) (c : Ctx) (Y : List (List AV) → List AV → Option (Prop × Bool)) : Prop :=
  ∀ (ys : List (List AV)) (args : List AV) (M : Nat → Prop) (w : World) (p : Prop) (b : Bool), c.J ys M w → Frame c w → plainL args = true → Y ys args = some (p, b) → p →
    ∃ fn tmps assign body, (Instr.yield c.l (plainVals args).toArray).run P w = .ok (.round c.l fn tmps assign body) w ∧
      RoundIn (W none) 0 P c.l fn tmps assign body w fun en w' => en = .returned (.bool b) ∧ ∃ M', c.J (ys ++ [args]) M' w' ∧
        w'.os = w.os ∧ w'.tape = w.tape ∧ w'.output = w.output ∧ w.heap.size ≤ w'.heap.size ∧ (∀ k, k < w.heap.size → ¬ M k → w'.heap[k]? = w.heap[k]?) ∧ (∀ k, M' k → M k ∨ w.heap.size ≤ k)

theorem HeapOK.yielded {M' : Nat → Prop} {w' : World} {args : List AV} (hh : HeapOK c e st w) (hJ : c.J (st.ys ++ [args]) M' w') (ho : w'.os = w.os) (ht : w'.tape = w.tape) (hu : w'.output = w.output) (hs : w.heap.size ≤ w'.heap.size)
    (hb : ∀ k, k < w.heap.size → ¬ e.M k → w'.heap[k]? = w.heap[k]?) (hM : ∀ k, M' k → e.M k ∨ w.heap.size ≤ k) :
    HeapOK c ⟨e.β, e.ρ, M', e.D, e.l⟩ ⟨st.tmps, st.boxes, st.rows, st.ys ++ [args], st.pin⟩ w' ∧ Pres st e ⟨st.tmps, st.boxes, st.rows, st.ys ++ [args], st.pin⟩ ⟨e.β, e.ρ, M', e.D, e.l⟩ [] := by
  have hp : Pres st e ⟨st.tmps, st.boxes, st.rows, st.ys ++ [args], st.pin⟩ ⟨e.β, e.ρ, M', e.D, e.l⟩ [] := pres_of rfl rfl (fun i b hi => ⟨⟨b, hi⟩, rfl⟩) (fun i q _ hq => ⟨⟨q, hq, rfl, Nat.le_refl _⟩, rfl⟩)
  have hmine : ∀ g, g < w.heap.size → Mine c e.M g → Mine c M' g := fun g hg h => ⟨h.1, fun hm => by rcases hM g hm with h1 | h1; exact h.2 h1; omega⟩
  have hfix : ∀ g, Fixed c e.M g → Fixed c M' g := fun g h => ⟨h.1, h.2.1, fun hm => by rcases hM g hm with h1 | h1; exact h.2.2 h1; have := hh.base_le; have := h.1; omega⟩
  refine ⟨⟨⟨ho.trans hh.frame.os, ht.trans hh.frame.tape, hu.trans hh.frame.output, Nat.le_trans hh.frame.size hs, fun k h1 h2 => ?_⟩, fun i b hi => ?_, fun i q hq => ?_, hh.injB, hh.injR, hh.apart, hJ, fun D hD => ?_, fun D hD => ?_, fun k hk => ?_, hh.yl, hh.nd, RL_keep hp hh.pin⟩, hp⟩
  · rw [hb k (by have := hh.base_le; omega) (fun hm => by rcases hh.mwr k hm with h3 | h3; exact h2 h3; omega)]
    exact hh.frame.block k h1 h2
  · have hlt := hh.box_lt hi
    obtain ⟨⟨vs, h1, h2, h3⟩, h4⟩ := hh.box i b hi
    refine ⟨⟨vs, ?_, RL_keep hp h2, h3⟩, ?_⟩
    · show w'.heap[e.β i]? = _
      rw [hb _ hlt (by cases ho : b.own <;> rw [ho] at h4 <;> first | exact h4.2.2 | exact h4.2)]; exact h1
    · cases ho : b.own <;> rw [ho] at h4
      · exact hfix _ h4
      · exact hmine _ hlt h4
  · obtain ⟨h3, h4⟩ := hh.row i q hq
    refine ⟨h3, ?_⟩
    cases hro : q.own
    · rw [hro] at h4
      obtain ⟨a', cap, h5, h6, h7, h8⟩ := h4
      exact ⟨a', cap, h5, h6, h7, fun j v hj => by obtain ⟨b, h9, h10, h11⟩ := h8 j v hj; exact ⟨b, h9, hfix _ h10, h11⟩⟩
    · rw [hro] at h4
      refine ⟨h4.1.same (fun g hg hlt => hb g hlt (h4.2 g hg).2), fun g hg => hmine g (h4.1.lt hg).1 (h4.2 g hg)⟩
  · rw [hb D (lt_of_heap (hh.defd D hD)) (hh.defm D hD).1]; exact hh.defd D hD
  · exact ⟨fun hm => by rcases hM D hm with h1 | h1; exact (hh.defm D hD).1 h1; have := lt_of_heap (hh.defd D hD); omega, (hh.defm D hD).2⟩
  · rcases hM k hk with h1 | h1
    · exact hh.mwr k h1
    · right; have := hh.base_le; omega

theorem builtin_inv {A : Operand → AV} {fr : Nat} {av : AV} {pre : List Prop} {l : List AV} {b : Builtin} {args : List Operand} {ts : List TypeId} (h : trBuiltin TT A (look st) fr b args ts = some ⟨pre, av, .yield l⟩) : False := by
  unfold trBuiltin trLen trClear trAppend trAppendS at h
  repeat' (split at h)
  all_goals cases h

theorem callC_inv {fb fr g : Nat} {av : AV} {pre : List Prop} {l args : List AV} (h : callC C (resolve st) fb fr g args = some ⟨pre, av, .yield l⟩) : False := by
  unfold callC at h
  repeat' (split at h)
  all_goals cases h

theorem yield_inv {A : Operand → AV} {fb fr : Nat} {av : AV} {pre : List Prop} {l : List AV} {op : Op} (htr : tr TT C Y A (look st) (resolve st) st.ys fb fr op = some ⟨pre, av, .yield l⟩) :
    ∃ cl f b p, op = .call cl ∧ cl.callee = .value f ∧ A f = .yv ∧ plainL (listOf A cl.args.toList) = true ∧ Y st.ys (listOf A cl.args.toList) = some (p, b) ∧ pre = [p] ∧ av = .b b ∧ l = listOf A cl.args.toList := by
  cases op with
  | call cl =>
    simp only [tr] at htr
    split at htr
    · rename_i f hcl
      split at htr
      · exact (callC_inv htr).elim
      · rename_i hf
        split at htr
        · rename_i hpl
          split at htr
          · rename_i p b hY
            cases htr
            exact ⟨cl, f, b, p, rfl, hcl, hf, hpl, hY, rfl, rfl, rfl⟩
          · cases htr
        · cases htr
      · cases htr
    · exact (builtin_inv htr).elim
    · cases htr
  | pick c x y =>
    simp only [tr, trPick] at htr
    repeat' (split at htr)
    all_goals cases htr
  | slice T x lo hi mx =>
    simp only [tr, trSlice, trSliceR] at htr
    repeat' (split at htr)
    all_goals cases htr
  | binOp o T x y T' =>
    simp only [tr] at htr
    repeat' (split at htr)
    all_goals cases htr
  | _ =>
    simp only [tr, reduceCtorEq] at htr
    all_goals (repeat' (split at htr))
    all_goals cases htr

theorem tr_sound {A : Operand → AV} {fb fr : Nat} {av : AV} {pre : List Prop} {eff : Eff} (hTT : TTOK P TT) (hC : ∀ f con, C f = some con → ConOK P G f con) (hgood : ∀ w, Frame c w → G c.g0 w) (hY : YOK P c Y)
    (hh : HeapOK c e st w) (hA : ∀ y ∈ o.op.operands.toList, R st e (A y) (a.eval y)) (htr : tr TT C Y A (look st) (resolve st) st.ys fb fr o.op = some ⟨pre, av, eff⟩) (hp : ∀ p ∈ pre, p)
    (hfb : ∀ j, fb ≤ j → j < fb + eff.newsB → getK none st.boxes j = none) (hfr : ∀ j, fr ≤ j → j < fr + eff.news → getK none st.rows j = none) :
    ∀ (K : Act → World → Prop) (Q : Exit → Act → World → Prop), (∀ v w' e', HeapOK c e' (eff.apply fb fr st) w' → Pres st e (eff.apply fb fr st) e' eff.kills → R (eff.apply fb fr st) e' av v → K (a.put o.dst v) w') → o.wpIn (W c.r) 0 P a w K Q := by
  intro K Q h
  have hdef : ∀ cl, o.op ≠ .defer cl := fun cl hcl => by rw [hcl] at htr; simp [tr] at htr
  by_cases hny : ∀ l, eff ≠ .yield l
  · exact wp_in hdef (tr_goes hny hTT hC hgood hh hA htr hp hfb hfr K Q h)
  · obtain ⟨l, rfl⟩ : ∃ l, eff = .yield l := by
      false_or_by_contra
      rename_i hn
      exact hny fun l hl => hn ⟨l, hl⟩
    have hop : ∃ cl f b p, o.op = .call cl ∧ cl.callee = .value f ∧ A f = .yv ∧ plainL (listOf A cl.args.toList) = true ∧ Y st.ys (listOf A cl.args.toList) = some (p, b) ∧ pre = [p] ∧ av = .b b ∧ l = listOf A cl.args.toList := yield_inv htr
    obtain ⟨cl, f, b, p, hcl, hf, hA', hpl, hYs, rfl, rfl, rfl⟩ := hop
    have hpp : p := hp p (by simp)
    obtain ⟨callee, args, ts⟩ := cl
    simp only at hf
    subst hf
    rw [hcl] at hA
    simp only [Op.operands, Call.operands] at hA
    have hfR := hA f (by simp)
    rw [hA'] at hfR
    have hfR' : a.eval f = .func (.yield c.l) #[] #[] := by rw [← hh.yl]; exact hfR
    have hargs : RL st e (listOf A args.toList) (args.toList.map a.eval) := by rw [listOf_eq]; exact RL_map fun y hy => hA y (by simp; exact .inr (by simpa using hy))
    have hvals := plain_RL hpl hargs
    obtain ⟨fn, tmps, assign, body, hy1, hy2⟩ := hY st.ys (listOf A args.toList) e.M w p b hh.out hh.frame hpl hYs hpp
    refine ⟨fun _ _ => trivial, ?_⟩
    rw [Oper.semAt_plain (W c.r) a.eval o hdef]
    have hargs' : args.map a.eval = (plainVals (listOf A args.toList)).toArray := Array.ext' (by simp [hvals])
    have hrun : (execOp a.eval o).run P w = .ok (.round c.l fn tmps assign body) w := by
      simp only [execOp, hcl, Go.resolve, hfR', Deferred.ofValue, invoke]
      simp [hargs', hy1]
    rw [hrun]
    refine ⟨(fun h' => by cases h'), ?_⟩
    have hr2 : RoundIn (W c.r) 0 P c.l fn tmps assign body w _ := hy2
    refine hr2.mono ?_
    rintro en w' ⟨rfl, M', h1, h2, h3, h4, h5, h6, h7⟩
    obtain ⟨h8, h9⟩ := hh.yielded h1 h2 h3 h4 h5 h6 h7
    exact h (.bool b) w' _ h8 h9 rfl
end
end Go.X
