/- Part KA of the proof that a law of this program answers yes at every input: no conditions beyond the given statement. -/
import Derived.Calls
import Derived.Below
import Derived.Laws.Append
import Derived.Laws.OwnMore
import Derived.Laws.BytesString
import Derived.Laws.Build
import Derived.WalkLawsBesides
import Derived.WideLaws
import Derived.Laws.StructEq
import Derived.Laws.IdiomCopy
set_option linter.unusedSimpArgs false
set_option linter.unusedVariables false
set_option linter.all false
/- The abstract values, heaps and frames of an evaluator for Go functions over plain data, and what they stand for in the model's worlds. -/
namespace Go.Ai

/-- Abstract values. 'ref': a place in memory that nobody writes any more, with what lies there; 'slice': such memory with its elements, 'own': may it grow in place? -/
inductive A where
  | top
  | int (k : IntKind) (n : Int)
  | bool (b : Bool)
  | str (s : List UInt8)
  | nilp
  | ptr (id : List Nat) (off : Nat)
  | ref (cells : List A) (off : Nat)
  | nils
  | slice (xs : List (List A)) (own : Option (Nat × Nat))
  | mslice (id : List Nat) (off len : Nat)
  | nilf
  | fn (f : Nat) (caps : List A)
  | nili
  | iface (t : Nat) (a : A)
  | agg (cs : List A)
  | tuple (vs : List A)
  deriving Inhabited

abbrev Id := List Nat
abbrev Heap := Id → Option (List A)
abbrev Fr := Nat → A

def Fr.set (fr : Fr) (d : Nat) (v : A) : Fr := fun t => if t = d then v else fr t
def Fr.put (fr : Fr) (d : Option Nat) (v : A) : Fr := match d with | some d => fr.set d v | none => fr
def upd (h : Heap) (id : Id) (cs : List A) : Heap := fun i => if i = id then some cs else h i
def era (h : Heap) (id : Id) : Heap := fun i => if i = id then none else h i
/-- is i made under a place k :: p with k ≥ c? -/
def underB (p : Id) (c : Nat) : Id → Bool
  | [] => false
  | k :: q => (decide (c ≤ k) && decide (q = p)) || underB p c q
def dropFrom (p : Id) (c : Nat) (h : Heap) : Heap := fun i => bif underB p c i then none else h i

def A.weak1 : A → A
  | .nils => .slice [] none
  | .slice xs _ => .slice xs none
  | a => a
def A.weak : A → A
  | .agg cs => .agg (cs.map A.weak1)
  | a => a.weak1
def A.weakR : A → A
  | .tuple vs => .tuple (vs.map A.weak)
  | a => a.weak
/-- without a right to grow; nil stays nil -/
def A.noOwn1 : A → A
  | .slice xs _ => .slice xs none
  | a => a
def A.noOwn : A → A
  | .agg cs => .agg (cs.map A.noOwn1)
  | a => a.noOwn1
def A.noOwnR : A → A
  | .tuple vs => .tuple (vs.map A.noOwn)
  | a => a.noOwn
/-- what a function hands back -/
def A.outK (k : Bool) (a : A) : A := match k with | true => a.weakR | false => a.noOwnR
@[simp] theorem outK_true (a : A) : a.outK true = a.weakR := rfl
@[simp] theorem outK_false (a : A) : a.outK false = a.noOwnR := rfl
def A.cells : A → Option (List A)
  | .agg cs => some cs
  | .top => none
  | .tuple _ => none
  | a => some [a]

/-- the cells that a store writes -/
def A.stored : A → Option (List A)
  | .agg cs => some (cs.map A.noOwn1)
  | a => a.cells

/-- What is known of memory for good: cells that nobody writes, and where an object lies. -/
structure Ghost where
  K : Nat → Nat → Option Value
  m : Id → Option (Nat × Nat)

def Ghost.le (G G' : Ghost) : Prop := (∀ b o v, G.K b o = some v → G'.K b o = some v) ∧ (∀ i x, G.m i = some x → G'.m i = some x)

mutual
/-- What an abstract value stands for. -/
inductive V (G : Ghost) : A → Value → Prop
  | top {v} : V G .top v
  | int {k n} : V G (.int k n) (.int k n)
  | bool {b} : V G (.bool b) (.bool b)
  | str {s : List UInt8} : V G (.str s) (.string ⟨s.toArray⟩)
  | nilp : V G .nilp (.pointer none)
  | ptr {id off b o} : G.m id = some (b, o) → V G (.ptr id off) (.pointer (some ⟨b, o + off, none⟩))
  | ref {cells off b o} : VK G cells b o → V G (.ref cells off) (.pointer (some ⟨b, o + off, none⟩))
  | nils : V G .nils (.slice none 0 0)
  | sliceNil {own} : V G (.slice [] own) (.slice none 0 0)
  | sliceE {a} : V G (.slice [] none) (.slice (some a) 0 0)
  | slice {xs own b o cap sz} : VS G sz xs b o → xs.length ≤ cap → (∀ q, own = some q → q.2 = sz ∧ ∃ B, G.m [] = some (B, 0) ∧ B ≤ b) →
      V G (.slice xs own) (.slice (some ⟨b, o, none⟩) xs.length cap)
  | mslice {id off len b o cap} : G.m id = some (b, o) → len ≤ cap → V G (.mslice id off len) (.slice (some ⟨b, o + off, none⟩) len cap)
  | nilf : V G .nilf .nilFunc
  | fn {f caps vs} : VF G caps vs → V G (.fn f caps) (.func (.func f) #[] ⟨vs⟩)
  | nili : V G .nili .nilIface
  | iface {t a v} : V G a v → V G (.iface t a) (.iface t v)
  | agg {cs vs} : VF G cs vs → (∀ v ∈ vs, v.oneCell' = true) → V G (.agg cs) (.agg ⟨vs⟩)
  | tuple {cs vs} : VF G cs vs → V G (.tuple cs) (.tuple ⟨vs⟩)
/-- value by value -/
inductive VF (G : Ghost) : List A → List Value → Prop
  | nil : VF G [] []
  | cons {a v as vs} : V G a v → VF G as vs → VF G (a :: as) (v :: vs)
/-- cells in memory that nobody writes, from a place on -/
inductive VK (G : Ghost) : List A → Nat → Nat → Prop
  | nil {b o} : VK G [] b o
  | cons {a v as b o} : G.K b o = some v → v.oneCell' = true → V G a v → VK G as b (o + 1) → VK G (a :: as) b o
/-- elements of so many cells each, in memory that nobody writes -/
inductive VS (G : Ghost) : Nat → List (List A) → Nat → Nat → Prop
  | nil {sz b o} : VS G sz [] b o
  | cons {sz x xs b o} : x.length = sz → VK G x b o → VS G sz xs b (o + sz) → VS G sz (x :: xs) b o
end
end Go.Ai

/- The evaluator: Go's operations and statements over abstract values. -/
namespace Go.Ai

/-- the kinds of types that the evaluator asks for -/
inductive Kd where
  | bool | int (k : IntKind) | str | ptr | slice (e : Nat) | struct | func | iface | other
  deriving DecidableEq

section
variable (P : Program)
def kindT (t : Nat) : Kd := match P.underlying t with
  | some .bool => .bool
  | some (.int k) => .int k
  | some .string => .str
  | some (.pointer _) => .ptr
  | some (.slice e) => .slice e
  | some (.struct _) => .struct
  | some (.func ..) => .func
  | some (.interface _) => .iface
  | _ => .other
/-- a type's size in cells, and whether it is a struct or an array -/
def shapeT (t : Nat) : Option (Nat × Bool) := match P.info? t, P.underlying t with
  | some i, some (.struct _) => some (i.size, true)
  | some i, some (.array ..) => some (i.size, true)
  | some i, some _ => some (i.size, false)
  | _, _ => none
def szT (t : Nat) : Option Nat := (P.info? t).map (·.size)
def bytesT (t : Nat) : Option Nat := (P.info? t).map (·.bytes)
/-- a field's offset, if it has cells -/
def fieldT (s f : Nat) : Option Nat := match P.underlying s with
  | some (.struct fs) => match fs[f]? with
    | some fd => match szT P fd.type with
      | some (_ + 1) => some fd.offset
      | _ => none
    | none => none
  | _ => none
/-- a field's offset and size -/
def partT (s f : Nat) : Option (Nat × Nat × Bool) := match P.underlying s with
  | some (.struct fs) => match fs[f]? with
    | some fd => (shapeT P fd.type).map fun q => (fd.offset, q.1, q.2)
    | none => none
  | _ => none
/-- the offsets and sizes of a struct's fields -/
def placesT (t : Nat) : Option (List (Nat × Nat)) := match P.underlying t with
  | some (.struct fs) => fs.toList.mapM fun f => (P.info? f.type).map fun i => (f.offset, i.size)
  | _ => none
def ofConst : Value → Option A
  | .int k n => some (.int k n)
  | .bool b => some (.bool b)
  | .string s => some (.str s.data.toList)
  | .pointer none => some .nilp
  | .slice none 0 0 => some .nils
  | .nilFunc => some .nilf
  | .nilIface => some .nili
  | _ => none
def zeroT (t : Nat) : Option (List A) := match (P.info? t).bind (·.zero) with
  | some (.agg cs) => cs.toList.mapM ofConst
  | some v => (ofConst v).map ([·])
  | none => none
end

def ev (fr : Fr) : Operand → Option A
  | .tmp t => some (fr t)
  | .const v => ofConst v
  | .func f => some (.fn f [])
  | .global _ => none
def evw (fr : Fr) (x : Operand) : Option A := (ev fr x).map A.weak
def evn (fr : Fr) (x : Operand) : Option A := (ev fr x).map A.noOwn

def bytesA (s : List UInt8) : List (List A) := s.map fun b => [.int .u8 b.toNat]
def unbytes : List (List A) → Option (List UInt8)
  | [] => some []
  | [.int .u8 n] :: xs => if 0 ≤ n ∧ n < 256 then (unbytes xs).map (UInt8.ofNat n.toNat :: ·) else none
  | _ :: _ => none

def bitsA (op : BinOp) (k : IntKind) (x y : Int) : Int :=
  let a := BitVec.ofInt k.bits x
  let b := BitVec.ofInt k.bits y
  match op with
  | .and => k.wrap (a &&& b).toNat
  | .or => k.wrap (a ||| b).toNat
  | .xor => k.wrap (a ^^^ b).toNat
  | _ => k.wrap (a &&& ~~~b).toNat

def intA (op : BinOp) (k : IntKind) (x y : Int) : Option A := match op with
  | .add => some (.int k (k.wrap (x + y)))
  | .sub => some (.int k (k.wrap (x - y)))
  | .mul => some (.int k (k.wrap (x * y)))
  | .quo => if y = 0 then none else some (.int k (k.wrap (x.tdiv y)))
  | .rem => if y = 0 then none else some (.int k (x.tmod y))
  | .and => some (.int k (bitsA .and k x y))
  | .or => some (.int k (bitsA .or k x y))
  | .xor => some (.int k (bitsA .xor k x y))
  | .andNot => some (.int k (bitsA .andNot k x y))
  | .eql => some (.bool (x == y))
  | .neq => some (.bool (x != y))
  | .lss => some (.bool (x < y))
  | .leq => some (.bool (x ≤ y))
  | .gtr => some (.bool (x > y))
  | .geq => some (.bool (x ≥ y))
  | _ => none

def maxStr : Nat := 9223372036854775807

def strA (op : BinOp) (x y : List UInt8) : Option A := match op with
  | .add => if x.length + y.length ≤ maxStr then some (.str (x ++ y)) else none
  | .eql => some (.bool (x == y))
  | .neq => some (.bool !(x == y))
  | .lss => some (.bool (Op.bytesLess x y))
  | .leq => some (.bool (Op.bytesLess x y || x == y))
  | .gtr => some (.bool !(Op.bytesLess x y || x == y))
  | .geq => some (.bool !(Op.bytesLess x y))
  | _ => none

/-- Is a value nil? With it, of which family it is: a pointer, a function, an interface value, a slice. Nothing: it is not known, or not to be asked. -/
def A.nilness : A → Option (Nat × Bool)
  | .nilp => some (0, true)
  | .ptr .. => some (0, false)
  | .ref .. => some (0, false)
  | .nilf => some (1, true)
  | .fn .. => some (1, false)
  | .nili => some (2, true)
  | .iface .. => some (2, false)
  | .nils => some (3, true)
  | .slice xs _ => if xs.isEmpty then none else some (3, false)
  | .mslice .. => some (3, false)
  | _ => none
def Kd.cls : Kd → Option Nat
  | .ptr => some 0
  | .func => some 1
  | .iface => some 2
  | .slice _ => some 3
  | _ => none

/-- equality with nil -/
def eqA (k : Kd) (x y : A) : Option Bool := match x.nilness, y.nilness, k.cls with
  | some (c, a), some (c', b), some d => if c = c' ∧ c = d ∧ (a || b) = true then some (a && b) else none
  | _, _, _ => none

/-- fields of numbers, texts and booleans alone: where each lies, and its kind -/
def Kd.flatK : Kd → Bool
  | .bool | .int _ | .str => true
  | _ => false
def eqsT (P : Program) (t : Nat) : Option (List (Nat × Kd)) := match P.underlying t with
  | some (.struct fs) => if P.stoodInHeld t = false ∧ P.eqGuardType P.depth t = false ∧ (fs.toList.all fun f => f.name != "_" && (kindT P f.type).flatK) = true then some (fs.toList.map fun f => (f.offset, kindT P f.type)) else none
  | _ => none
/-- field by field -/
def eqsA : List (Nat × Kd) → List A → List A → Option Bool
  | [], _, _ => some true
  | (o, k) :: r, xs, ys => match k, xs[o]?, ys[o]? with
    | .int _, some (.int a m), some (.int b n) => if a = b then (if m = n then eqsA r xs ys else some false) else none
    | .str, some (.str a), some (.str b) => if a = b then eqsA r xs ys else some false
    | .bool, some (.bool a), some (.bool b) => if a = b then eqsA r xs ys else some false
    | _, _, _ => none

def isConst : Operand → Bool | .const _ => true | _ => false

def binA (P : Program) (op : BinOp) (t : Nat) (cst : Bool) (x y : A) : Option A := match op, x, y with
  | .shl, .int k a, .int _ b => if b < 0 then none else some (.int k (k.wrap (a * 2 ^ (min b.toNat k.bits))))
  | .shr, .int k a, .int _ b => if b < 0 then none else some (.int k (a.fdiv (2 ^ (min b.toNat k.bits))))
  | op, .int k a, .int k' b => if k = k' then intA op k a b else none
  | op, .str a, .str b => strA op a b
  | .eql, .bool a, .bool b => if kindT P t = .bool then some (.bool (a == b)) else none
  | .neq, .bool a, .bool b => if kindT P t = .bool then some (.bool !(a == b)) else none
  | .eql, .agg xs, .agg ys => (eqsT P t).bind fun ks => (eqsA ks xs ys).map .bool
  | .neq, .agg xs, .agg ys => (eqsT P t).bind fun ks => (eqsA ks xs ys).map fun b => .bool !b
  | .eql, x, y => if cst = true then (eqA (kindT P t) x y).map .bool else none
  | .neq, x, y => if cst = true then (eqA (kindT P t) x y).map fun b => .bool !b else none
  | _, _, _ => none

def convA (P : Program) (src dst : Nat) (x : A) : Option A := match kindT P dst, x with
  | .int k, .int _ n => if (P.underlying src).isSome then some (.int k (k.wrap n)) else none
  | .str, .str s => if kindT P src = .str then some (.str s) else none
  | .str, .slice xs _ => match kindT P src with
    | .slice e => if kindT P e = .int .u8 then (unbytes xs).map .str else none
    | _ => none
  | .str, .nils => match kindT P src with
    | .slice e => if kindT P e = .int .u8 then some (.str []) else none
    | _ => none
  | _, _ => none

/-- cells from a place on, others in their place -/
def splice (cs : List A) (off : Nat) (vs : List A) : Option (List A) :=
  if off + vs.length ≤ cs.length then some (cs.take off ++ vs ++ cs.drop (off + vs.length)) else none

def pickCells (agg : Bool) (cs : List A) (off n : Nat) : Option A :=
  if agg then (if off + n ≤ cs.length then some (.agg (((cs.drop off).take n).map A.noOwn1)) else none) else (cs[off]?).map A.noOwn1

def fillA (pl : List (Nat × Nat)) : List A → List (Nat × A) → Option (List A)
  | cs, [] => some cs
  | cs, (i, v) :: rest => match pl[i]?, v.cells with
    | some (off, n), some vs => if vs.length = n then (splice cs off vs).bind fun cs => fillA pl cs rest else none
    | _, _ => none

def idxOf : A → Option Int | .int _ n => some n | _ => none
def natOf (len : Nat) : A → Option Nat | .int _ n => if 0 ≤ n ∧ n ≤ len then some n.toNat else none | _ => none

def hiOf (n : Nat) : Option A → Option Nat
  | some v => natOf n v
  | none => some n
def loOf (n : Nat) : Option A → Option Nat
  | some v => natOf n v
  | none => some 0
def headLen (s : Nat) : List (List A) → Bool
  | x :: _ => x.length == s
  | [] => true
def sliceA (k : Kd) (sz : Nat → Option Nat) (x : A) (lo hi : Option A) : Option A := match k, x with
  | .str, .str s => (hiOf s.length hi).bind fun h => (loOf h lo).map fun l => .str ((s.take h).drop l)
  | .slice e, .slice xs _ => match sz e with
    | some s => if headLen s xs then (hiOf xs.length hi).bind fun h => (loOf h lo).map fun l => .slice ((xs.take h).drop l) none else none
    | none => none
  | _, _ => none

def lenA (k : Kd) : A → Option A
  | .str s => if k = .str then some (.int .i64 s.length) else none
  | .slice xs _ => match k with | .slice _ => some (.int .i64 xs.length) | _ => none
  | .nils => match k with | .slice _ => some (.int .i64 0) | _ => none
  | .mslice _ _ n => match k with | .slice _ => some (.int .i64 n) | _ => none
  | _ => none

def evp (fr : Fr) (q : Nat × Operand) : Option (Nat × A) := (evw fr q.2).map fun a => (q.1, a)
/-- what an operand holds; or, nil staying nil -/
def evK (k : Bool) (fr : Fr) (x : Operand) : Option A := match k with | true => evw fr x | false => evn fr x
@[simp] theorem evK_true (fr : Fr) (x : Operand) : evK true fr x = evw fr x := rfl
@[simp] theorem evK_false (fr : Fr) (x : Operand) : evK false fr x = (ev fr x).map A.noOwn := rfl
/-- the same; or nil stays nil -/
def evpK (k : Bool) (fr : Fr) (q : Nat × Operand) : Option (Nat × A) := match k with | true => evp fr q | false => (evn fr q.2).map fun a => (q.1, a)
def evo (fr : Fr) : Option Operand → Option (Option A)
  | some x => (evw fr x).map some
  | none => some none

/-- operations that touch no memory that is written -/
def pureA (P : Program) (fr : Fr) (o : Oper) : Option A := match o.op with
  | .binOp op t x y _ => do binA P op t (isConst x || isConst y) (← evw fr x) (← evw fr y)
  | .unOp .not _ x => do match ← evw fr x with | .bool b => some (.bool !b) | _ => none
  | .convert s d x => do convA P s d (← evw fr x)
  | .nilCheck x => do match ← evw fr x with
    | .ptr id off => some (.ptr id off)
    | .ref cs off => some (.ref cs off)
    | .fn f cs => some (.fn f cs)
    | _ => none
  | .fieldAddr s x f => do match ← evw fr x, fieldT P s f with
    | .ptr id off, some k => some (.ptr id (off + k))
    | .ref cs off, some k => some (.ref cs (off + k))
    | _, _ => none
  | .field s x f => do match ← evw fr x, partT P s f with
    | .agg cs, some (off, n, g) => pickCells g cs off n
    | _, _ => none
  | .indexAddr t x i => do match kindT P t, ← evw fr x, ← evw fr i with
    | .slice e, .slice xs _, .int _ n => match szT P e, (if 0 ≤ n then xs[n.toNat]? else none) with
      | some s, some c => if c.length = s then some (.ref c 0) else none
      | _, _ => none
    | .slice e, .mslice id off len, .int _ n => match szT P e with
      | some s => if 0 ≤ n ∧ n < len then some (.ptr id (off + n.toNat * s)) else none
      | _ => none
    | _, _, _ => none
  | .index t x i => do match kindT P t, ← evw fr x, ← evw fr i with
    | .str, .str s, .int _ n => (if 0 ≤ n then s[n.toNat]? else none).map fun b => .int .u8 b.toNat
    | _, _, _ => none
  | .extract x i => do match ← ev fr x with | .tuple vs => (vs[i]?).map A.weak | _ => none
  | .makeFunc (.func f) first caps => if first.size = 0 then (caps.toList.mapM (evw fr)).map (.fn f) else none
  | .pick c a b => do match ← evw fr c with | .bool t => if t then evw fr a else evw fr b | _ => none
  | .build t parts => (zeroT P t).bind fun z => (placesT P t).bind fun pl => (parts.toList.mapM (evp fr)).bind fun ps => (fillA pl z ps).map .agg
  | .slice t x lo hi none => (evw fr x).bind fun x => (evo fr lo).bind fun lo => (evo fr hi).bind fun hi => sliceA (kindT P t) (szT P) x lo hi
  | .call { callee := .builtin b, args, argTypes } => do
    match b, args.toList, argTypes.toList with
    | .len, [x], [t] => lenA (kindT P t) (← evw fr x)
    | .min, [x, y], _ => match ← evw fr x, ← evw fr y with
      | .int k a, .int _ b => some (.int k (if b < a then b else a))
      | _, _ => none
    | .max, [x, y], _ => match ← evw fr x, ← evw fr y with
      | .int k a, .int _ b => some (.int k (if a < b then b else a))
      | _, _ => none
    | _, _, _ => none
  | _ => none
end Go.Ai

/- The evaluator, continued: memory, regions, statements, calls. -/
namespace Go.Ai

/-- What a proof may choose for the evaluator: which pointer types are frozen where they become interface values; which functions are known by a law of their own; 'raw': which functions' arguments keep nil slices as nil. -/
structure Env where
  P : Program
  frz : Nat → Bool
  prim : Nat → Option (Id → List A → Heap → Option (A × Heap))
  keep : Nat → Bool
  raw : Nat → Bool
  draw : Nat → Nat → Option (List (Nat × Nat))
  live : Nat → Nat → List Nat
  /-- element types: what is appended to nil is an object -/
  obj : Nat → Bool := fun _ => false
  /-- functions whose loops keep the objects that a round makes -/
  keepL : Nat → Bool := fun _ => false
  /-- does what an append takes keep its right to grow? -/
  feed : Bool := true

inductive Ex where
  | normal | exit (id : Nat) | ret
  deriving DecidableEq

def rawG (E : Env) : Operand → Bool
  | .func f => E.raw f
  | _ => false
/-- a call's arguments -/
def argsA (E : Env) (fr : Fr) (g : Operand) (args : List Operand) : Option (List A) := if rawG E g = true then args.mapM (evn fr) else args.mapM (evw fr)

def loadA (P : Program) (t : Nat) (x : A) (h : Heap) : Option A := (shapeT P t).bind fun q => match x with
  | .ptr id off => (h id).bind fun cs => pickCells q.2 cs off q.1
  | .ref cs off => pickCells q.2 cs off q.1
  | _ => none

/-- a slice or a text -/
def Kd.plain : Kd → Bool
  | .slice _ => true
  | .str => true
  | _ => false

/-- the first operand of an append of the region (and what twin.each hands back): what is moved or loaded there keeps its right to grow -/
def feeds (all : List Oper) (d : Option Nat) : Bool := match d with
  | some d => all.any fun o => match o.op with
    | .call { callee := .builtin .append, args, .. } => match args.toList with | .tmp t :: _ => t == d | _ => false
    | .assign x => match x, o.dst with | .tmp t, some r => t == d && (t == 21 && r == 4) | _, _ => false
    | _ => false
  | none => false

/-- a value with its right to grow, and the frame without it -/
def takeA (fr : Fr) : Operand → Option (A × Fr)
  | .tmp t => some (fr t, fr.set t (fr t).weak)
  | x => (ev fr x).map (·, fr)

/-- the elements that are appended -/
def addedA (s : Nat) : A → Option (List (List A))
  | .slice ys _ => if headLen s ys then some ys else none
  | .nils => some []
  | .str b => if s = 1 then some (bytesA b) else none
  | _ => none
/-- the elements of what may grow -/
def growA (e s : Nat) : A → Option (List (List A))
  | .slice xs (some q) => if q = (e, s) then some xs else none
  | .nils => some []
  | _ => none
def appendA (e s bytes : Nat) (x y : A) : Option A := (growA e s x).bind fun xs => (addedA s y).bind fun ys =>
  if (xs.length + ys.length) * bytes ≤ 140737488355328 ∧ xs.length + ys.length ≤ maxStr then some (.slice (xs ++ ys) (some (e, s))) else none

/-- an append; to nil, of some types: a new object -/
def appendO (ob : Nat → Bool) (e s bytes : Nat) (p : Id) (c : Nat) (h : Heap) (x y : A) : Option (A × Nat × Heap) := match ob e, x with
  | true, .nils => (addedA s y).bind fun ys => if ys.length * bytes ≤ 140737488355328 ∧ ys.length ≤ maxStr ∧ 1 ≤ ys.length ∧ ys.length * s ≠ 2 then
      some (.mslice (e :: c :: p) 0 ys.length, c + 1, upd h (e :: c :: p) (ys.flatten.map A.noOwn1)) else none
  | _, x => (appendA e s bytes x y).map fun v => (v, c, h)

def setAt {α : Type} (xs : List α) (i : Nat) (v : α) : Option (List α) := if i < xs.length then some (xs.set i v) else none

/-- elements of a slice written out -/
def elemsA (s : Nat) : List (List A) → List (Nat × A) → Option (List (List A))
  | xs, [] => some xs
  | xs, (i, v) :: rest => match v.cells with
    | some vs => if vs.length = s then (setAt xs i vs).bind fun xs => elemsA s xs rest else none
    | none => none

/-- a slot that a guard looks at; '.tuple []': it was not filled -/
def wantA (want : Bool) : A → Option Bool
  | .bool b => some (b == want)
  | .tuple vs => if vs.isEmpty then some false else none
  | _ => none

section
variable (E : Env) (cl : Id → Nat → List A → Heap → Option (A × Heap)) (p : Id) (all : List Oper)

/-- one operation that is carried out -/
def stepA (o : Oper) (fr : Fr) (c : Nat) (h : Heap) : Option (Fr × Nat × Heap) := match o.op with
  | .move x => if (E.feed && feeds all o.dst) = true then (takeA fr x).map fun (v, fr) => (fr.put o.dst v, c, h) else (evK E.feed fr x).map fun v => (fr.put o.dst v, c, h)
  | .assign x => (takeA fr x).map fun (v, fr) => (fr.put o.dst v, c, h)
  | .alloc t => (zeroT E.P t).map fun z => (fr.put o.dst (.ptr (t :: c :: p) 0), c + 1, upd h (t :: c :: p) z)
  | .box t x => (ev fr x).bind fun v => v.noOwn.cells.map fun cs => (fr.put o.dst (.ptr (t :: c :: p) 0), c + 1, upd h (t :: c :: p) cs)
  | .load t x => (ev fr x).bind fun a =>
    if (E.feed && feeds all o.dst) = true then match a with
      | .ptr id off => (h id).bind fun cs => match shapeT E.P t with
        | some (_, false) => (cs[off]?).map fun v => (fr.put o.dst v, c, upd h id (cs.set off v.weak1))
        | _ => none
      | _ => none
    else (loadA E.P t a h).map fun v => (fr.put o.dst v.noOwn, c, h)
  | .store t x y => (ev fr x).bind fun a => (takeA fr y).bind fun (v, fr) => match a, szT E.P t with
    | .ptr id off, some n => v.stored.bind fun vs => if vs.length = n then (h id).bind fun cs => (splice cs off vs).map fun cs => (fr.put o.dst .top, c, upd h id cs) else none
    | _, _ => none
  | .buildSlice t len parts => match kindT E.P t with
    | .slice e => match szT E.P e, zeroT E.P e with
      | some s, some z => if z.length = s ∧ len * s ≤ 16777216 then
          (parts.toList.mapM (evpK E.feed fr)).bind fun ps => (elemsA s (List.replicate len z) ps).map fun xs => (fr.put o.dst (.slice xs (some (e, s))), c, h)
        else none
      | _, _ => none
    | _ => none
  | .makeSlice t l n => match kindT E.P t, evw fr l, evw fr n with
    | .slice e, some (.int _ l), some (.int _ n) => match szT E.P e, zeroT E.P e, bytesT E.P e with
      | some s, some z, some b => if 0 ≤ l ∧ l ≤ n ∧ (b : Int) * n ≤ 281474976710656 ∧ n ≤ 9223372036854775807 ∧ z.length = s then
          if l = 0 then some (fr.put o.dst (.slice [] (some (e, s))), c, h)
          else if l = n then some (fr.put o.dst (.mslice (e :: c :: p) 0 n.toNat), c + 1, upd h (e :: c :: p) (List.replicate n.toNat z).flatten) else none
        else none
      | _, _, _ => none
    | _, _, _ => none
  | .makeInterface t x => (evw fr x).bind fun a => match kindT E.P t with
    | .iface => none
    | _ => if E.P.concrete t then if E.frz t then match a with
        | .ptr id 0 => (h id).map fun cs => (fr.put o.dst (.iface t (.ref (cs.map A.weak1) 0)), c, era h id)
        | .ref cs off => some (fr.put o.dst (.iface t (.ref cs off)), c, h)
        | _ => none
      else some (fr.put o.dst (.iface t a), c, h)
      else none
  | .convert s d x => match kindT E.P s, kindT E.P d, evw fr x with
    | .str, .slice e, some (.str b) => if kindT E.P e = .int .u8 then some (fr.put o.dst (.slice (bytesA b) none), c, h) else none
    | _, .str, some (.mslice id off len) => match kindT E.P s with
      | .slice e => if kindT E.P e = .int .u8 then (h id).bind fun cs => (if off + len ≤ cs.length then unbytes (((cs.drop off).take len).map ([·])) else none).map fun b => (fr.put o.dst (.str b), c, h) else none
      | _ => none
    | _, _, _ => (pureA E.P fr o).map fun v => (fr.put o.dst v.noOwn, c, h)
  | .call { callee := .builtin .append, args, argTypes } => match args.toList, argTypes.toList with
    | [x, y], [t, t2] => match kindT E.P t, (kindT E.P t2).plain && o.dst.isSome with
      | .slice e, true => match szT E.P e, bytesT E.P e, zeroT E.P e with
        | some s, some b, some z => if z.length = s then (evw fr y).bind fun u => (takeA fr x).bind fun (v, fr) => (appendO E.obj e s b p c h v u).map fun (v, c, h) => (fr.put o.dst v, c, h) else none
        | _, _, _ => none
      | _, _ => none
    | _, _ => none
  | .call { callee := .value g, args, .. } => (evw fr g).bind fun gv => (argsA E fr g args.toList).bind fun vs => match gv with
    | .fn f caps => (cl (c :: p) f (vs ++ caps.map A.noOwn) h).map fun (v, h) => (fr.put o.dst v, c + 1, h)
    | _ => none
  | _ => (pureA E.P fr o).map fun v => (fr.put o.dst v.noOwn, c, h)

/-- does an operation's guard let it be carried out? -/
def guardA (o : Oper) (fr : Fr) : Option Bool := match o.guard with
  | none => some true
  | some (j, want) => (((all[j]?).bind (·.dst)).map fr).bind (wantA want)

def runOps : List Oper → Fr → Nat → Heap → Option (Fr × Nat × Heap)
  | [], fr, c, h => some (fr, c, h)
  | o :: os, fr, c, h => match guardA all o fr with
    | some true => (stepA E cl p all o fr c h).bind fun (fr, c, h) => runOps os fr c h
    | some false => runOps os (fr.put o.dst (.tuple [])) c h
    | none => none
end

/-- operations that change what others may see, or the evaluator's right to grow -/
def isLoud (E : Env) (all : List Oper) (o : Oper) : Bool := match o.op with
  | .assign _ | .store .. => true
  | .makeInterface t _ => E.frz t
  | .move _ | .load .. => E.feed && feeds all o.dst
  | .call { callee := .builtin .append, .. } => true
  | .call { callee := .value _, .. } => true
  | .convert s _ _ => match kindT E.P s with | .slice _ => true | _ => false
  | _ => false
/-- operations that make an object -/
def allocLike (o : Oper) : Bool := match o.op with
  | .alloc _ => true
  | .box .. => true
  | .makeSlice .. => true
  | _ => false
def isLoad (o : Oper) : Bool := match o.op with | .load .. => true | _ => false

/-- what a load has read: where, how much -/
def loadAt (P : Program) (fr : Fr) (o : Oper) : Option (Id × Nat × Nat) := match o.op with
  | .load t x => match ev fr x, shapeT P t with
    | some (.ptr id off), some (n, g) => some (id, off, if g then n else 1)
    | _, _ => none
  | _ => none

mutual
def A.beq : A → A → Bool
  | .top, .top => true
  | .int k n, .int k' n' => decide (k = k') && decide (n = n')
  | .bool b, .bool b' => decide (b = b')
  | .str s, .str s' => decide (s = s')
  | .nilp, .nilp => true
  | .ptr i o, .ptr i' o' => decide (i = i') && decide (o = o')
  | .ref cs o, .ref cs' o' => A.beqL cs cs' && decide (o = o')
  | .nils, .nils => true
  | .slice xs w, .slice xs' w' => A.beqS xs xs' && decide (w = w')
  | .mslice i o n, .mslice i' o' n' => decide (i = i') && decide (o = o') && decide (n = n')
  | .nilf, .nilf => true
  | .fn f cs, .fn f' cs' => decide (f = f') && A.beqL cs cs'
  | .nili, .nili => true
  | .iface t a, .iface t' a' => decide (t = t') && A.beq a a'
  | .agg cs, .agg cs' => A.beqL cs cs'
  | .tuple cs, .tuple cs' => A.beqL cs cs'
  | _, _ => false
def A.beqL : List A → List A → Bool
  | [], [] => true
  | a :: as, b :: bs => A.beq a b && A.beqL as bs
  | _, _ => false
def A.beqS : List (List A) → List (List A) → Bool
  | [], [] => true
  | a :: as, b :: bs => A.beqL a b && A.beqS as bs
  | _, _ => false
end

/-- do two heaps hold the same from a place on? -/
def sameAt (h h' : Heap) (q : Id × Nat × Nat) : Bool := match h q.1, h' q.1 with
  | some cs, some cs' => decide (cs.length = cs'.length) && A.beqL (((cs.drop q.2.1).take q.2.2).map A.noOwn1) (((cs'.drop q.2.1).take q.2.2).map A.noOwn1)
  | none, none => true
  | _, _ => false

section
variable (E : Env) (cl : Id → Nat → List A → Heap → Option (A × Heap)) (p : Id) (all : List Oper) (ps : List (Nat × Nat))

/-- Operations in the text's order, and a look whether the loads among them that are not bound to their places could stand elsewhere: 'ls': what the loads so far have read; 'hs': heaps ahead of and behind the loud ones. -/
def runDraw : List Oper → Nat → List (Nat × Id × Nat × Nat) → List (Nat × Heap × Heap) → Fr → Nat → Heap → Option (Fr × Nat × Heap)
  | [], _, ls, hs, fr, c, h =>
    if ps.all fun (i, j) => ls.all fun l => hs.all fun g => !(l.1 == i && g.1 == j) || sameAt g.2.1 g.2.2 l.2 then some (fr, c, h) else none
  | o :: os, i, ls, hs, fr, c, h => match guardA all o fr with
    | some true => (stepA E cl p all o fr c h).bind fun r =>
      runDraw os (i + 1) (match loadAt E.P fr o with | some q => if ps.any (·.1 == i) then (i, q) :: ls else ls | none => ls)
        (if ps.any (·.2 == i) then (i, h, r.2.2) :: hs else hs) r.1 r.2.1 r.2.2
    | some false => runDraw os (i + 1) ls hs (fr.put o.dst (.tuple [])) c h
    | none => none
end

/-- a frame of which nothing is known -/
def bot : Fr := fun _ => .top
/-- of a frame only some slots -/
def trim : List Nat → Fr → Fr
  | [], _ => bot
  | t :: ts, fr => (trim ts fr).set t (fr t)
/-- a statement's first region -/
def _root_.Go.Code.key : Code → Nat
  | .region id .. => id
  | .seq a _ => a.key
  | .cond _ a _ => a.key
  | .block _ a => a.key
  | .loop a => a.key
  | _ => 0

section
variable (E : Env) (cl : Id → Nat → List A → Heap → Option (A × Heap)) (f : Nat) (p : Id)

/-- from where on a round's objects are forgotten -/
def loop0 (k : Bool) (c : Nat) : Nat := if k = true then 9223372036854775808 else c
@[simp] theorem loop0_false (c : Nat) : loop0 false c = c := rfl
@[simp] theorem loop0_true (c : Nat) : loop0 true c = 9223372036854775808 := rfl
def iter (L : List Nat) (step : Fr → Nat → Heap → Option (Ex × Fr × Nat × Heap)) (c0 : Nat) : Nat → Fr → Nat → Heap → Option (Ex × Fr × Nat × Heap)
  | 0, _, _, _ => none
  | n + 1, fr, c, h => (step fr c h).bind fun (e, fr, c, h) => match e with
    | .normal => iter L step c0 n (trim L fr) c (dropFrom p c0 h)
    | e => some (e, trim L fr, c, dropFrom p c0 h)

def exec (m : Nat) : Code → Fr → Nat → Heap → Option (Ex × Fr × Nat × Heap)
  | .skip, fr, c, h => some (.normal, fr, c, h)
  | .region id ops draw, fr, c, h =>
    (match draw with
      | false => runOps E cl p ops.toList ops.toList fr c h
      | true => match E.draw f id with
        | some [] => runOps E cl p ops.toList ops.toList fr c h
        | some ps => runDraw E cl p ops.toList ps ops.toList 0 [] [] fr c h
        | none => none).map fun (fr, c, h) => (.normal, fr, c, h)
  | .seq a b, fr, c, h => (exec m a fr c h).bind fun (e, fr, c, h) => match e with
    | .normal => exec m b fr c h
    | e => some (e, fr, c, h)
  | .cond x a b, fr, c, h => match ev fr x with
    | some (.bool t) => if t then exec m a fr c h else exec m b fr c h
    | _ => none
  | .block id a, fr, c, h => (exec m a fr c h).map fun (e, fr, c, h) => (match e with | .exit i => if i = id then .normal else .exit i | e => e, fr, c, h)
  | .loop a, fr, c, h => iter p (E.live f a.key) (exec m a) (loop0 (E.keepL f) c) m (trim (E.live f a.key) fr) c h
  | .exit id, fr, c, h => some (.exit id, fr, c, h)
  | .ret, fr, c, h => some (.ret, fr, c, h)
  | _, _, _, _ => none
end

def resA (P : Program) (fr : Fr) (h : Heap) : ResultVar → Option A
  | .tmp t => some (fr t)
  | .cell a t => loadA P t (fr a) h

def outA : List A → A
  | [a] => a
  | as => .tuple as

def initFr (args : List A) : Fr := fun t => args.getD t .top

def call (E : Env) : Nat → Id → Nat → List A → Heap → Option (A × Heap)
  | 0, _, _, _, _ => none
  | n + 1, p, f, args, h => match E.prim f with
    | some g => g p args h
    | none => (E.P.funcs[f]?).bind fun fn => fn.body.bind fun code =>
      (exec E (call E n) f p n code (initFr args) 0 h).bind fun (e, fr, _, h) => match e with
        | .exit _ => none
        | _ => (fn.results.toList.mapM (resA E.P fr h)).map fun vs => ((outA vs).outK E.feed, if E.keep f then h else dropFrom p 0 h)
end Go.Ai

/- What the evaluator's heaps and frames stand for in the model's worlds. -/
namespace Go.Ai
open Go.RowKit

/-- Who may write a cell: nobody; nobody here; an object; the room behind a slice in an object's cell; the room behind a slice in a frame's slot. -/
inductive Lab where
  | imm | rest | obj (id : Id) | hsp (id : Id) (j : Nat) | tsp (p : Id) (t : Nat)
  deriving DecidableEq

abbrev Own := Nat → Nat → Option Lab

/-- a block's type and size, if what is frozen there lies as it should -/
def shp (w : World) (b : Nat) : Option (TypeId × Nat) := match w.heap[b]? with
  | some (.cells c e (lo, hi)) => if lo ≤ hi then some (e, c.size) else none
  | _ => none
theorem shp_shape {w : World} {b : Nat} {x : TypeId × Nat} (h : shp w b = some x) : w.shape? b = some x := by
  unfold shp at h
  unfold World.shape?
  split at h
  · rename_i hb
    split at h
    · rw [hb]; exact h
    · cases h
  · cases h

def Room (O : Own) (w : World) (L : Lab) (a : A) (v : Value) : Prop :=
  ∀ xs s b o n cap, a = .slice xs (some s) → v = .slice (some ⟨b, o, none⟩) n cap → (o = 0 ∧ shp w b = some (s.1, cap * s.2) ∧ (s.1 ≠ 5 → ∀ x, w.frozen? ⟨b, x, none⟩ = false)) ∧ ∀ x, o + n * s.2 ≤ x →
    O b x = some L ∧ (x < o + cap * s.2 → (w.cell? ⟨b, x, none⟩).isSome = true) ∧ w.frozen? ⟨b, x, none⟩ = false

/-- an object's cells in memory -/
def ObjAt (G : Ghost) (O : Own) (w : World) (id : Id) (b o : Nat) (cs : List A) : Prop :=
  ∀ j a, cs[j]? = some a → O b (o + j) = some (.obj id) ∧ w.frozen? ⟨b, o + j, none⟩ = false ∧
    ∃ v, w.cell? ⟨b, o + j, none⟩ = some v ∧ v.oneCell' = true ∧ V G a v ∧ Room O w (.hsp id j) a v

structure R (B : Nat) (w0 : World) (G : Ghost) (O : Own) (h : Heap) (w : World) : Prop where
  below : Below B w0 w
  base : B ≤ w.heap.size
  imm : ∀ b o v, G.K b o = some v → O b o = some .imm ∧ w.cell? ⟨b, o, none⟩ = some v
  obj : ∀ id cs, h id = some cs → ∃ b o, G.m id = some (b, o) ∧ ObjAt G O w id b o cs
  lt : ∀ b o l, O b o = some l → b < w.heap.size
  new : ∀ b o l, O b o = some l → l ≠ .imm → l ≠ .rest → B ≤ b
  bot : G.m [] = some (B, 0)
  typ : ∀ id cs b o, h id = some cs → G.m id = some (b, o) → o = 0 ∧ ∃ t, id.head? = some t ∧ ∃ n, shp w b = some (t, n) ∧ (cs.length = 2 → n = 2)

structure FR (p : Id) (nt : Nat) (G : Ghost) (O : Own) (w : World) (fr : Fr) (tm : Array Value) : Prop where
  size : nt ≤ tm.size
  val : ∀ t, V G (fr t) (tm.getD t undef) ∧ Room O w (.tsp p t) (fr t) (tm.getD t undef)

def Prot (p : Id) : Lab → Prop
  | .rest => True
  | .tsp q _ => ¬ p <:+ q
  | _ => False

structure Keeps (p : Id) (O : Own) (w : World) (O' : Own) (w' : World) : Prop where
  lab : ∀ b o l, O b o = some l → Prot p l → O' b o = some l ∧ w'.cell? ⟨b, o, none⟩ = w.cell? ⟨b, o, none⟩ ∧ w'.frozen? ⟨b, o, none⟩ = w.frozen? ⟨b, o, none⟩
  size : w.heap.size ≤ w'.heap.size
  shape : ∀ b x, shp w b = some x → shp w' b = some x
  frz : ∀ b x, shp w b = some x → x.1 ≠ 5 → ∀ y, w'.frozen? ⟨b, y, none⟩ = w.frozen? ⟨b, y, none⟩

def Fresh (G : Ghost) (p : Id) (c : Nat) : Prop := ∀ i, underB p c i = true → G.m i = none
/-- the same, but for some places -/
def FreshX (X : Nat → Prop) (G : Ghost) (p : Id) (c : Nat) : Prop := ∀ i, underB p c i = true → (∀ k, X k → ¬ (k :: p) <:+ i) → G.m i = none

/-- from one state of a frame to a later one -/
structure Mv (p : Id) (c : Nat) (G : Ghost) (O : Own) (w : World) (c' : Nat) (G' : Ghost) (O' : Own) (w' : World) : Prop where
  le : G.le G'
  keeps : Keeps p O w O' w'
  cnt : c ≤ c'
  ids : ∀ i, (∀ k, c ≤ k → k < c' → ¬ (k :: p) <:+ i) → G'.m i = G.m i

/-- the same of a call -/
structure MvC (p : Id) (G : Ghost) (O : Own) (w : World) (G' : Ghost) (O' : Own) (w' : World) : Prop where
  le : G.le G'
  keeps : Keeps p O w O' w'
  ids : ∀ i, underB p 0 i = false → G'.m i = G.m i

theorem Ghost.le_refl (G : Ghost) : G.le G := ⟨fun _ _ _ h => h, fun _ _ h => h⟩
theorem Ghost.le_trans {G G' G'' : Ghost} (h : G.le G') (k : G'.le G'') : G.le G'' := ⟨fun b o v x => k.1 b o v (h.1 b o v x), fun i x y => k.2 i x (h.2 i x y)⟩

theorem Keeps.refl (p : Id) (O : Own) (w : World) : Keeps p O w O w := ⟨fun _ _ _ h _ => ⟨h, rfl, rfl⟩, Nat.le_refl _, fun _ _ h => h, fun _ _ _ _ _ => rfl⟩
theorem Keeps.trans {p : Id} {O O' O'' : Own} {w w' w'' : World} (h : Keeps p O w O' w') (k : Keeps p O' w' O'' w'') : Keeps p O w O'' w'' :=
  ⟨fun b o l hl hp => by
    obtain ⟨h1, h2, h3⟩ := h.lab b o l hl hp
    obtain ⟨k1, k2, k3⟩ := k.lab b o l h1 hp
    exact ⟨k1, k2.trans h2, k3.trans h3⟩, Nat.le_trans h.size k.size, fun b x hb => k.shape b x (h.shape b x hb), fun b x hb hx y => (k.frz b x (h.shape b x hb) hx y).trans (h.frz b x hb hx y)⟩

theorem underB_mono {p : Id} {c c' : Nat} (h : c ≤ c') : ∀ {i : Id}, underB p c' i = true → underB p c i = true := by
  intro i
  induction i with
  | nil => intro h; exact h
  | cons k q ih =>
    intro hh
    simp only [underB, Bool.or_eq_true, Bool.and_eq_true, decide_eq_true_eq] at hh ⊢
    rcases hh with ⟨h1, h2⟩ | hh
    · exact .inl ⟨by omega, h2⟩
    · exact .inr (ih hh)

theorem Mv.refl (p : Id) (c : Nat) (G : Ghost) (O : Own) (w : World) : Mv p c G O w c G O w := ⟨G.le_refl, .refl _ _ _, Nat.le_refl _, fun _ _ => rfl⟩
theorem Mv.trans {p : Id} {c c' c'' : Nat} {G G' G'' : Ghost} {O O' O'' : Own} {w w' w'' : World} (h : Mv p c G O w c' G' O' w') (k : Mv p c' G' O' w' c'' G'' O'' w'') :
    Mv p c G O w c'' G'' O'' w'' :=
  ⟨Ghost.le_trans h.le k.le, h.keeps.trans k.keeps, Nat.le_trans h.cnt k.cnt, fun i hi => by
    have h1 := h.cnt; have h2 := k.cnt
    rw [k.ids i (fun j hj hj2 => hi j (by omega) hj2), h.ids i (fun j hj hj2 => hi j hj (by omega))]⟩

theorem FreshX.mono {X : Nat → Prop} {G : Ghost} {p : Id} {c c' : Nat} (h : FreshX X G p c) (hc : c ≤ c') : FreshX X G p c' := fun i hi => h i (underB_mono hc hi)
theorem Fresh.mono {G : Ghost} {p : Id} {c c' : Nat} (h : Fresh G p c) (hc : c ≤ c') : Fresh G p c' := fun i hi => h i (underB_mono hc hi)

/-- an id under k :: p is longer than p -/
theorem underB_length {p : Id} {c : Nat} : ∀ {i : Id}, underB p c i = true → p.length < i.length := by
  intro i
  induction i with
  | nil => intro h; cases h
  | cons k q ih =>
    intro hh
    simp only [underB, Bool.or_eq_true, Bool.and_eq_true, decide_eq_true_eq] at hh
    rcases hh with ⟨_, h2⟩ | hh
    · subst h2; simp
    · have := ih hh; simp; omega
theorem underB_self (p : Id) (c : Nat) : underB p c p = false := by
  cases h : underB p c p with
  | false => rfl
  | true => have := underB_length h; omega
theorem underB_cons (p : Id) (c k : Nat) : underB p c (k :: p) = decide (c ≤ k) := by simp [underB, underB_self]
theorem suffix_of_underB {p : Id} {c : Nat} : ∀ {i : Id}, underB p c i = true → p <:+ i := by
  intro i
  induction i with
  | nil => intro h; cases h
  | cons k q ih =>
    intro hh
    simp only [underB, Bool.or_eq_true, Bool.and_eq_true, decide_eq_true_eq] at hh
    rcases hh with ⟨_, h2⟩ | hh
    · subst h2; exact List.suffix_cons _ _
    · exact (ih hh).trans (List.suffix_cons _ _)
/-- what lies under c :: p lies under p from c on -/
theorem underB_of_cons {p : Id} {c d : Nat} : ∀ {i : Id}, underB (c :: p) d i = true → underB p c i = true := by
  intro i
  induction i with
  | nil => intro h; cases h
  | cons k q ih =>
    intro hh
    simp only [underB, Bool.or_eq_true, Bool.and_eq_true, decide_eq_true_eq] at hh ⊢
    rcases hh with ⟨_, h2⟩ | hh
    · subst h2; exact .inr (by simp [underB])
    · exact .inr (ih hh)
theorem underB_suffix {p : Id} {c : Nat} : ∀ {i : Id}, underB p c i = true → ∃ k, c ≤ k ∧ (k :: p) <:+ i := by
  intro i
  induction i with
  | nil => intro h; cases h
  | cons k q ih =>
    intro hh
    simp only [underB, Bool.or_eq_true, Bool.and_eq_true, decide_eq_true_eq] at hh
    rcases hh with ⟨h1, h2⟩ | hh
    · subst h2; exact ⟨k, h1, List.suffix_refl _⟩
    · obtain ⟨k', h1, h2⟩ := ih hh
      exact ⟨k', h1, h2.trans (List.suffix_cons _ _)⟩
theorem underB_of_suffix {p : Id} {c k : Nat} (hk : c ≤ k) : ∀ {i : Id}, (k :: p) <:+ i → underB p c i = true := by
  intro i
  induction i with
  | nil => intro h; have := h.length_le; simp at this
  | cons x q ih =>
    intro h
    simp only [underB, Bool.or_eq_true, Bool.and_eq_true, decide_eq_true_eq]
    rcases List.suffix_cons_iff.1 h with h | h
    · simp only [List.cons.injEq] at h
      obtain ⟨rfl, rfl⟩ := h
      exact .inl ⟨hk, rfl⟩
    · exact .inr (ih h)
theorem cons_suffix_inj {p : Id} {k c : Nat} {i : Id} (h : (k :: p) <:+ i) (h2 : (c :: p) <:+ i) : k = c := by
  have := List.suffix_of_suffix_length_le h h2 (by simp)
  have := this.eq_of_length (by simp)
  simpa using this
theorem underB_disj {p : Id} {c d : Nat} {i : Id} (h : underB p (c + 1) i = true) : underB (c :: p) d i = false := by
  cases h2 : underB (c :: p) d i with
  | false => rfl
  | true =>
    obtain ⟨k, hk, hs⟩ := underB_suffix h
    have hs2 := suffix_of_underB h2
    have : (k :: p) = (c :: p) := by
      have := List.suffix_of_suffix_length_le hs hs2 (by simp)
      exact this.eq_of_length (by simp)
    simp at this; omega
end Go.Ai

/- Laws of what abstract values stand for. -/
namespace Go.Ai
open Go.RowKit

mutual
theorem V.mono {G G' : Ghost} (h : G.le G') : ∀ {a : A} {v : Value}, V G a v → V G' a v
  | _, _, .top => .top
  | _, _, .int => .int
  | _, _, .bool => .bool
  | _, _, .str => .str
  | _, _, .nilp => .nilp
  | _, _, .ptr e => .ptr (h.2 _ _ e)
  | _, _, .ref k => .ref (VK.mono h k)
  | _, _, .nils => .nils
  | _, _, .sliceNil => .sliceNil
  | _, _, .sliceE => .sliceE
  | _, _, .slice s l e => .slice (VS.mono h s) l fun q hq => ⟨(e q hq).1, (e q hq).2.imp fun _ hB => ⟨h.2 _ _ hB.1, hB.2⟩⟩
  | _, _, .mslice e l => .mslice (h.2 _ _ e) l
  | _, _, .nilf => .nilf
  | _, _, .fn f => .fn (VF.mono h f)
  | _, _, .nili => .nili
  | _, _, .iface k => .iface (V.mono h k)
  | _, _, .agg f o => .agg (VF.mono h f) o
  | _, _, .tuple f => .tuple (VF.mono h f)
theorem VF.mono {G G' : Ghost} (h : G.le G') : ∀ {as : List A} {vs : List Value}, VF G as vs → VF G' as vs
  | _, _, .nil => .nil
  | _, _, .cons a as => .cons (V.mono h a) (VF.mono h as)
theorem VK.mono {G G' : Ghost} (h : G.le G') : ∀ {as : List A} {b o : Nat}, VK G as b o → VK G' as b o
  | _, _, _, .nil => .nil
  | _, _, _, .cons k o a as => .cons (h.1 _ _ _ k) o (V.mono h a) (VK.mono h as)
theorem VS.mono {G G' : Ghost} (h : G.le G') : ∀ {sz : Nat} {as : List (List A)} {b o : Nat}, VS G sz as b o → VS G' sz as b o
  | _, _, _, _, .nil => .nil
  | _, _, _, _, .cons l a as => .cons l (VK.mono h a) (VS.mono h as)
end

/-- a value that bears no right to grow -/
def A.free (a : A) : Prop := ∀ xs s, a ≠ .slice xs (some s)
theorem A.free_weak1 (a : A) : a.weak1.free := by intro xs s; cases a <;> simp [A.weak1]
theorem A.free_weak (a : A) : a.weak.free := by
  intro xs s
  cases a <;> simp [A.weak, A.weak1]
theorem Room.free {O : Own} {w : World} {L : Lab} {a : A} {v : Value} (h : a.free) : Room O w L a v := fun xs s _ _ _ _ e => absurd e (h xs s)

theorem V.weak1 {G : Ghost} {a : A} {v : Value} (h : V G a v) : V G a.weak1 v := by
  cases h with
  | slice s l e => exact .slice s l (fun _ h => by cases h)
  | sliceNil => exact .sliceNil
  | sliceE => exact .sliceE
  | nils => exact .sliceNil
  | top => exact .top
  | int => exact .int
  | bool => exact .bool
  | str => exact .str
  | nilp => exact .nilp
  | ptr e => exact .ptr e
  | ref k => exact .ref k
  | mslice e l => exact .mslice e l
  | nilf => exact .nilf
  | fn f => exact .fn f
  | nili => exact .nili
  | iface k => exact .iface k
  | agg f o => exact .agg f o
  | tuple f => exact .tuple f
theorem VF.weak1 {G : Ghost} : ∀ {as : List A} {vs : List Value}, VF G as vs → VF G (as.map A.weak1) vs
  | _, _, .nil => .nil
  | _, _, .cons a as => .cons a.weak1 as.weak1
theorem V.weak {G : Ghost} {a : A} {v : Value} (h : V G a v) : V G a.weak v := by
  cases a with
  | agg cs => cases h with | agg f o => exact .agg f.weak1 o
  | _ => exact h.weak1
theorem VF.weak {G : Ghost} : ∀ {as : List A} {vs : List Value}, VF G as vs → VF G (as.map A.weak) vs
  | _, _, .nil => .nil
  | _, _, .cons a as => .cons a.weak as.weak
theorem V.weakR {G : Ghost} {a : A} {v : Value} (h : V G a v) : V G a.weakR v := by
  cases a with
  | tuple vs => cases h with | tuple f => exact .tuple f.weak
  | _ => exact h.weak

theorem A.free_noOwn1 (a : A) : a.noOwn1.free := by intro xs s; cases a <;> simp [A.noOwn1]
theorem A.free_noOwn (a : A) : a.noOwn.free := by intro xs s; cases a <;> simp [A.noOwn, A.noOwn1]
theorem V.noOwn1 {G : Ghost} {a : A} {v : Value} (h : V G a v) : V G a.noOwn1 v := by
  cases h with
  | slice s l e => exact .slice s l (fun _ h => by cases h)
  | sliceNil => exact .sliceNil
  | sliceE => exact .sliceE
  | _ => constructor <;> assumption
theorem VF.noOwn1 {G : Ghost} : ∀ {as : List A} {vs : List Value}, VF G as vs → VF G (as.map A.noOwn1) vs
  | _, _, .nil => .nil
  | _, _, .cons a as => .cons a.noOwn1 as.noOwn1
theorem V.noOwn {G : Ghost} {a : A} {v : Value} (h : V G a v) : V G a.noOwn v := by
  cases a with
  | agg cs => cases h with | agg f o => exact .agg f.noOwn1 o
  | _ => exact h.noOwn1

theorem VF.noOwn {G : Ghost} : ∀ {as : List A} {vs : List Value}, VF G as vs → VF G (as.map A.noOwn) vs
  | _, _, .nil => .nil
  | _, _, .cons a as => .cons a.noOwn as.noOwn

theorem V.noOwnR {G : Ghost} {a : A} {v : Value} (h : V G a v) : V G a.noOwnR v := by
  cases a with
  | tuple cs => cases h with | tuple f => exact .tuple f.noOwn
  | _ => exact h.noOwn
theorem V.outK {G : Ghost} {a : A} {v : Value} (k : Bool) (h : V G a v) : V G (a.outK k) v := by cases k; exact h.noOwnR; exact h.weakR
theorem VF.length {G : Ghost} : ∀ {as : List A} {vs : List Value}, VF G as vs → vs.length = as.length
  | _, _, .nil => rfl
  | _, _, .cons _ as => by simp [as.length]
theorem VF.get {G : Ghost} : ∀ {as : List A} {vs : List Value}, VF G as vs → ∀ (i : Nat) (a : A), as[i]? = some a → ∃ v, vs[i]? = some v ∧ V G a v
  | _, _, .nil, i, a, h => by simp at h
  | _, _, .cons (v := v) ha as, i, a, h => by
    cases i with
    | zero => simp at h; subst h; exact ⟨v, by simp, ha⟩
    | succ i => simp at h; obtain ⟨v, hv, hV⟩ := as.get i a h; exact ⟨v, by simpa using hv, hV⟩
theorem VF.append {G : Ghost} : ∀ {as bs : List A} {vs us : List Value}, VF G as vs → VF G bs us → VF G (as ++ bs) (vs ++ us)
  | _, _, _, _, .nil, h => h
  | _, _, _, _, .cons a as, h => .cons a (as.append h)
theorem VF.drop {G : Ghost} : ∀ {as : List A} {vs : List Value}, VF G as vs → ∀ n, VF G (as.drop n) (vs.drop n)
  | _, _, .nil, n => by simp; exact .nil
  | _, _, .cons a as, 0 => .cons a as
  | _, _, .cons a as, n + 1 => by simpa using as.drop n
theorem VF.take {G : Ghost} : ∀ {as : List A} {vs : List Value}, VF G as vs → ∀ n, VF G (as.take n) (vs.take n)
  | _, _, .nil, n => by simp; exact .nil
  | _, _, .cons a as, 0 => by simp; exact .nil
  | _, _, .cons a as, n + 1 => by simpa using .cons a (as.take n)

/-- the cells of a value -/
theorem V.cells {G : Ghost} {a : A} {v : Value} {cs : List A} (h : V G a v) (hc : a.cells = some cs) : VF G cs v.cells.toList ∧ (∀ u ∈ v.cells.toList, u.oneCell' = true) := by
  cases h with
  | top => cases hc
  | tuple => cases hc
  | agg f o => cases hc; exact ⟨f, o⟩
  | _ => simp only [A.cells, Option.some.injEq] at hc; subst hc; exact ⟨.cons (by constructor <;> assumption) .nil, by simp [Value.cells, Value.oneCell']⟩

/-- the cells that a store writes -/
theorem V.stored {G : Ghost} {a : A} {v : Value} {cs : List A} (h : V G a v) (hc : a.stored = some cs) : VF G cs v.cells.toList ∧ (∀ u ∈ v.cells.toList, u.oneCell' = true) ∧
    ((∀ (j : Nat) (x : A), cs[j]? = some x → x.free) ∨ (cs = [a] ∧ v.cells = #[v])) := by
  cases a with
  | agg as =>
    simp only [A.stored, Option.some.injEq] at hc; subst hc
    cases h with
    | agg f o =>
      refine ⟨f.noOwn1, o, .inl ?_⟩
      intro j x hx
      simp only [List.getElem?_map, Option.map_eq_some_iff] at hx
      obtain ⟨y, _, rfl⟩ := hx
      exact A.free_noOwn1 y
  | top => cases hc
  | tuple => cases hc
  | _ =>
    simp only [A.stored] at hc
    refine ⟨(h.cells hc).1, (h.cells hc).2, .inr ?_⟩
    simp only [A.cells, Option.some.injEq] at hc
    subst hc
    cases h <;> exact ⟨rfl, rfl⟩

theorem VK.get {G : Ghost} : ∀ {as : List A} {b o : Nat}, VK G as b o → ∀ (i : Nat) (a : A), as[i]? = some a → ∃ v, G.K b (o + i) = some v ∧ v.oneCell' = true ∧ V G a v
  | _, _, _, .nil, i, a, h => by simp at h
  | _, _, _, .cons (v := v) k o1 ha as, i, a, h => by
    cases i with
    | zero => simp at h; subst h; exact ⟨v, k, o1, ha⟩
    | succ i => simp at h; obtain ⟨v, hv, hV⟩ := as.get i a h; exact ⟨v, by rw [show ∀ o, o + (i + 1) = o + 1 + i by omega]; exact hv, hV⟩
theorem VK.drop {G : Ghost} : ∀ {as : List A} {b o : Nat}, VK G as b o → ∀ n, VK G (as.drop n) b (o + n)
  | _, _, _, .nil, n => by simp; exact .nil
  | _, _, _, .cons k h1 ha as, 0 => .cons k h1 ha as
  | _, _, o, .cons k h1 ha as, n + 1 => by
    have := as.drop n
    rw [show o + 1 + n = o + (n + 1) by omega] at this
    simpa using this
theorem VK.take {G : Ghost} : ∀ {as : List A} {b o : Nat}, VK G as b o → ∀ n, VK G (as.take n) b o
  | _, _, _, .nil, n => by simp; exact .nil
  | _, _, _, .cons k h1 ha as, 0 => by simp; exact .nil
  | _, _, _, .cons k h1 ha as, n + 1 => by simpa using .cons k h1 ha (as.take n)
theorem VK.append {G : Ghost} : ∀ {as bs : List A} {b o : Nat}, VK G as b o → VK G bs b (o + as.length) → VK G (as ++ bs) b o
  | _, _, _, _, .nil, h => by simpa using h
  | _, _, _, o, .cons (as := as) k h1 ha hs, h => .cons k h1 ha (hs.append (by rw [show o + 1 + as.length = o + (as.length + 1) by omega]; simpa using h))
theorem VK.weak1 {G : Ghost} : ∀ {as : List A} {b o : Nat}, VK G as b o → VK G (as.map A.weak1) b o
  | _, _, _, .nil => .nil
  | _, _, _, .cons k h1 ha as => .cons k h1 ha.weak1 as.weak1
/-- cells in memory as values -/
theorem VK.vals {G : Ghost} : ∀ {as : List A} {b o : Nat}, VK G as b o → ∃ vs, VF G as vs ∧ (∀ v ∈ vs, v.oneCell' = true) ∧ ∀ j v, vs[j]? = some v → G.K b (o + j) = some v
  | _, _, _, .nil => ⟨[], .nil, by simp, by simp⟩
  | _, _, o, .cons (v := v) k h1 ha as => by
    obtain ⟨vs, h2, h3, h4⟩ := as.vals
    refine ⟨v :: vs, .cons ha h2, ?_, ?_⟩
    · intro u hu; rcases List.mem_cons.1 hu with rfl | hu; exact h1; exact h3 u hu
    · intro j u hj
      cases j with
      | zero => simp at hj; subst hj; exact k
      | succ j => simp at hj; have := h4 j u hj; rwa [show o + (j + 1) = o + 1 + j by omega]

theorem VS.flat {G : Ghost} : ∀ {sz : Nat} {xs : List (List A)} {b o : Nat}, VS G sz xs b o → VK G xs.flatten b o ∧ xs.flatten.length = xs.length * sz ∧ ∀ x ∈ xs, x.length = sz
  | _, _, _, _, .nil => ⟨.nil, by simp, by simp⟩
  | sz, _, b, o, .cons (x := x) (xs := xs) l h hs => by
    obtain ⟨h1, h2, h3⟩ := hs.flat
    refine ⟨by simpa using h.append (by rw [l]; exact h1), by simp [l, h2, Nat.add_mul, Nat.add_comm], ?_⟩
    intro y hy; rcases List.mem_cons.1 hy with rfl | hy; exact l; exact h3 y hy
theorem VS.of_flat {G : Ghost} (sz : Nat) : ∀ {xs : List (List A)} {b o : Nat}, VK G xs.flatten b o → (∀ x ∈ xs, x.length = sz) → VS G sz xs b o
  | [], _, _, _, _ => .nil
  | x :: xs, b, o, h, hl => by
    have hx : x.length = sz := hl x (by simp)
    simp only [List.flatten_cons] at h
    refine .cons hx (by simpa using h.take x.length) (VS.of_flat sz ?_ (fun y hy => hl y (by simp [hy])))
    have := h.drop x.length
    simp only [List.drop_left'] at this
    rwa [hx] at this
theorem VS.get {G : Ghost} {sz : Nat} : ∀ {xs : List (List A)} {b o : Nat}, VS G sz xs b o → ∀ (i : Nat) (x : List A), xs[i]? = some x → x.length = sz ∧ VK G x b (o + i * sz)
  | _, _, _, .nil, i, x, h => by simp at h
  | _, _, o, .cons l h hs, i, x, hx => by
    cases i with
    | zero => simp at hx; subst hx; exact ⟨l, by simpa using h⟩
    | succ i =>
      simp at hx
      obtain ⟨h1, h2⟩ := hs.get i x hx
      exact ⟨h1, by rw [show o + (i + 1) * sz = o + sz + i * sz by rw [Nat.add_mul]; omega]; exact h2⟩
theorem VS.take {G : Ghost} {sz : Nat} : ∀ {xs : List (List A)} {b o : Nat}, VS G sz xs b o → ∀ n, VS G sz (xs.take n) b o
  | _, _, _, .nil, n => by simp; exact .nil
  | _, _, _, .cons l h hs, 0 => by simp; exact .nil
  | _, _, _, .cons l h hs, n + 1 => by simpa using .cons l h (hs.take n)
theorem VS.drop {G : Ghost} {sz : Nat} : ∀ {xs : List (List A)} {b o : Nat}, VS G sz xs b o → ∀ n, VS G sz (xs.drop n) b (o + n * sz)
  | _, _, _, .nil, n => by simp; exact .nil
  | _, _, _, .cons l h hs, 0 => by simpa using .cons l h hs
  | _, _, o, .cons l h hs, n + 1 => by
    have := hs.drop n
    rw [show o + sz + n * sz = o + (n + 1) * sz by rw [Nat.add_mul]; omega] at this
    simpa using this
end Go.Ai

/- Operations that touch no memory: what the model does is what the evaluator says. -/
namespace Go.Ai
open Go.RowKit

theorem V.ofConst {G : Ghost} {v : Value} {a : A} (h : ofConst v = some a) : V G a v := by
  unfold Ai.ofConst at h
  split at h <;> simp at h <;> subst h
  · exact .int
  · exact .bool
  · exact .str
  · exact .nilp
  · exact .nils
  · exact .nilf
  · exact .nili

theorem V.ev {G : Ghost} {fr : Fr} {a : Act} (hf : ∀ t, V G (fr t) (a.tmps.getD t undef)) {x : Operand} {u : A} (h : ev fr x = some u) : V G u (a.eval x) := by
  cases x with
  | tmp t => simp [Ai.ev] at h; subst h; exact hf t
  | const v => exact V.ofConst h
  | func f => simp [Ai.ev] at h; subst h; exact .fn .nil
  | global g => simp [Ai.ev] at h
theorem V.evw {G : Ghost} {fr : Fr} {a : Act} (hf : ∀ t, V G (fr t) (a.tmps.getD t undef)) {x : Operand} {u : A} (h : evw fr x = some u) : V G u (a.eval x) := by
  simp only [Ai.evw, Option.map_eq_some_iff] at h
  obtain ⟨b, hb, rfl⟩ := h
  exact (V.ev hf hb).weak

theorem intA_ok {P : Program} {w : World} {op : BinOp} {t : Nat} {k : IntKind} {x y : Int} {r : A} (h : intA op k x y = some r) :
    ∃ v, (binOp op t (.int k x) (.int k y)).run P w = .ok v w ∧ ∀ G, V G r v := by
  cases op <;> simp only [intA] at h
  case shl => cases h
  case shr => cases h
  case quo =>
    split at h
    · cases h
    · rename_i hy; simp at h; subst h; exact ⟨.int k (k.wrap (x.tdiv y)), by simp [binOp_quo, Op.intDiv, hy], fun G => .int⟩
  case rem =>
    split at h
    · cases h
    · rename_i hy; simp at h; subst h; exact ⟨.int k (x.tmod y), by simp [binOp_rem, Op.intDiv, hy], fun G => .int⟩
  all_goals (simp only [Option.some.injEq] at h; subst h)
  case add => exact ⟨.int k (k.wrap (x + y)), by simp [binOp_add, Op.intArith], fun G => .int⟩
  case sub => exact ⟨.int k (k.wrap (x - y)), by simp [binOp_sub, Op.intArith], fun G => .int⟩
  case mul => exact ⟨.int k (k.wrap (x * y)), by simp [binOp_mul, Op.intArith], fun G => .int⟩
  case and => exact ⟨.int k (bitsA .and k x y), by rw [binOp_and]; rfl, fun G => .int⟩
  case or => exact ⟨.int k (bitsA .or k x y), by rw [binOp_or]; rfl, fun G => .int⟩
  case xor => exact ⟨.int k (bitsA .xor k x y), by rw [binOp_xor]; rfl, fun G => .int⟩
  case andNot => exact ⟨.int k (bitsA .andNot k x y), by rw [binOp_andNot]; rfl, fun G => .int⟩
  case eql => exact ⟨.bool (x == y), by rw [binOp_eql]; rfl, fun G => .bool⟩
  case neq => exact ⟨.bool (x != y), by rw [binOp_neq]; rfl, fun G => .bool⟩
  case lss => exact ⟨.bool (x < y), by rw [binOp_lss]; rfl, fun G => .bool⟩
  case leq => exact ⟨.bool (x ≤ y), by rw [binOp_leq]; rfl, fun G => .bool⟩
  case gtr => exact ⟨.bool (x > y), by rw [binOp_gtr]; rfl, fun G => .bool⟩
  case geq => exact ⟨.bool (x ≥ y), by rw [binOp_geq]; rfl, fun G => .bool⟩

theorem size_mk (l : List UInt8) : (ByteArray.mk l.toArray).size = l.length := by simp [ByteArray.size]
theorem toList_mk (l : List UInt8) : (ByteArray.mk l.toArray).toList = l := by
  rw [ByteArray.toList_eq]

theorem strA_ok {P : Program} {w : World} {op : BinOp} {t : Nat} {x y : List UInt8} {r : A} (h : strA op x y = some r) :
    ∃ v, (binOp op t (.string ⟨x.toArray⟩) (.string ⟨y.toArray⟩)).run P w = .ok v w ∧ ∀ G, V G r v := by
  have hb : ∀ op, op ≠ .shl → op ≠ .shr → binOp op t (.string ⟨x.toArray⟩) (.string ⟨y.toArray⟩) = Op.stringOp op ⟨x.toArray⟩ ⟨y.toArray⟩ := by
    intro op h1 h2; cases op <;> first | rfl | exact absurd rfl h1 | exact absurd rfl h2
  cases op <;> simp only [strA] at h
  all_goals first | (cases h; done) | skip
  case add =>
    split at h
    · rename_i hl
      simp only [Option.some.injEq] at h; subst h
      refine ⟨.string ⟨(x ++ y).toArray⟩, ?_, fun G => .str⟩
      rw [hb _ (by simp) (by simp)]
      simp only [Op.stringOp, size_mk]
      rw [if_neg (by simp [maxStr] at hl ⊢; omega)]
      have : (ByteArray.mk x.toArray) ++ (ByteArray.mk y.toArray) = ByteArray.mk (x ++ y).toArray := by
        apply ByteArray.ext; simp
      rw [this]; rfl
    · cases h
  all_goals (simp only [Option.some.injEq] at h; subst h)
  all_goals exact ⟨.bool _, by rw [hb _ (by simp) (by simp)]; simp only [Op.stringOp, toList_mk]; rfl, fun G => .bool⟩

theorem kindT_ptr {P : Program} {t : Nat} (h : kindT P t = .ptr) : ∃ e, P.underlying t = some (.pointer e) := by
  unfold kindT at h; split at h <;> first | exact ⟨_, ‹_›⟩ | cases h
theorem kindT_func {P : Program} {t : Nat} (h : kindT P t = .func) : ∃ a b c, P.underlying t = some (.func a b c) := by
  unfold kindT at h; split at h <;> first | exact ⟨_, _, _, ‹_›⟩ | cases h
theorem kindT_iface {P : Program} {t : Nat} (h : kindT P t = .iface) : ∃ e, P.underlying t = some (.interface e) := by
  unfold kindT at h; split at h <;> first | exact ⟨_, ‹_›⟩ | cases h
theorem kindT_slice {P : Program} {t e : Nat} (h : kindT P t = .slice e) : P.underlying t = some (.slice e) := by
  unfold kindT at h; split at h <;> first | (cases h; assumption) | cases h
theorem kindT_bool {P : Program} {t : Nat} (h : kindT P t = .bool) : P.underlying t = some .bool := by
  unfold kindT at h; split at h <;> first | assumption | cases h
theorem kindT_str {P : Program} {t : Nat} (h : kindT P t = .str) : P.underlying t = some .string := by
  unfold kindT at h; split at h <;> first | assumption | cases h
theorem kindT_int {P : Program} {t : Nat} {k : IntKind} (h : kindT P t = .int k) : P.underlying t = some (.int k) := by
  unfold kindT at h; split at h <;> first | (cases h; assumption) | cases h
theorem kindT_struct {P : Program} {t : Nat} (h : kindT P t = .struct) : ∃ fs, P.underlying t = some (.struct fs) := by
  unfold kindT at h; split at h <;> first | exact ⟨_, ‹_›⟩ | cases h

theorem equal_eq (t : TypeId) (x y : Value) : Op.equal t x y = Op.equalIn (9999 + 1) t x y := rfl

theorem nil_form {G : Ghost} {x : A} {v : Value} {c : Nat} {b : Bool} (h : x.nilness = some (c, b)) (hv : V G x v) :
    (c = 0 ∧ ∃ a, v = .pointer a ∧ a.isNone = b) ∨ (c = 1 ∧ (b = true ∧ v = .nilFunc ∨ b = false ∧ ∃ f a d, v = .func f a d)) ∨
    (c = 2 ∧ (b = true ∧ v = .nilIface ∨ b = false ∧ ∃ t u, v = .iface t u)) ∨ (c = 3 ∧ ∃ a n m, v = .slice a n m ∧ a.isNone = b) := by
  cases hv <;> simp only [A.nilness] at h <;> first | (cases h; done) | skip
  case slice => split at h <;> simp at h; obtain ⟨rfl, rfl⟩ := h; simp
  all_goals (simp only [Option.some.injEq, Prod.mk.injEq] at h; obtain ⟨rfl, rfl⟩ := h; simp)

theorem eqA_in (d : Nat) {P : Program} {w : World} {t : Nat} {x y : A} {b : Bool} {G : Ghost} {v u : Value} (h : eqA (kindT P t) x y = some b) (hv : V G x v) (hu : V G y u) :
    (Op.equalIn (d + 1) t v u).run P w = .ok b w := by
  unfold eqA at h
  split at h
  · rename_i c a c' a' d' h1 h2 h3
    split at h
    · rename_i hc
      obtain ⟨rfl, rfl, hab⟩ := hc
      simp only [Option.some.injEq] at h; subst h
      rcases nil_form h1 hv with ⟨rfl, r, rfl, e⟩ | ⟨rfl, e⟩ | ⟨rfl, e⟩ | ⟨rfl, r, n, m, rfl, e⟩ <;>
      rcases nil_form h2 hu with ⟨h0, r', rfl, e'⟩ | ⟨h0, e'⟩ | ⟨h0, e'⟩ | ⟨h0, r', n', m', rfl, e'⟩ <;>
        first | (cases h0; done) | skip
      · have hk : kindT P t = .ptr := by revert h3; cases kindT P t <;> simp [Kd.cls]
        obtain ⟨el, he⟩ := kindT_ptr hk
        subst e; subst e'
        cases r <;> cases r' <;> simp [Op.equalIn, run_underlying he] at hab ⊢
      · have hk : kindT P t = .func := by revert h3; cases kindT P t <;> simp [Kd.cls]
        obtain ⟨e1, e2, e3, he⟩ := kindT_func hk
        rcases e with ⟨rfl, rfl⟩ | ⟨rfl, f, g, i, rfl⟩ <;> rcases e' with ⟨rfl, rfl⟩ | ⟨rfl, f', g', i', rfl⟩ <;> simp [Op.equalIn, run_underlying he] at hab ⊢
      · have hk : kindT P t = .iface := by revert h3; cases kindT P t <;> simp [Kd.cls]
        obtain ⟨e1, he⟩ := kindT_iface hk
        rcases e with ⟨rfl, rfl⟩ | ⟨rfl, f, g, rfl⟩ <;> rcases e' with ⟨rfl, rfl⟩ | ⟨rfl, f', g', rfl⟩ <;> simp [Op.equalIn, run_underlying he] at hab ⊢
      · have hk : ∃ e, kindT P t = .slice e := by revert h3; cases kindT P t <;> simp [Kd.cls]
        obtain ⟨el, hk⟩ := hk
        have he := kindT_slice hk
        subst e; subst e'
        cases r <;> cases r' <;> simp [Op.equalIn, run_underlying he] at hab ⊢
    · cases h
  · cases h

theorem eqA_ok {P : Program} {w : World} {t : Nat} {x y : A} {b : Bool} {G : Ghost} {v u : Value} (h : eqA (kindT P t) x y = some b) (hv : V G x v) (hu : V G y u) :
    (Op.equal t v u).run P w = .ok b w := eqA_in 9999 h hv hu
theorem equal_bool_in (d : Nat) {P : Program} {w : World} {t : Nat} {a b : Bool} (h : kindT P t = .bool) : (Op.equalIn (d + 1) t (.bool a) (.bool b)).run P w = .ok (a == b) w := by
  simp [Op.equalIn, run_underlying (kindT_bool h)]
theorem equal_bool {P : Program} {w : World} {t : Nat} {a b : Bool} (h : kindT P t = .bool) : (Op.equal t (.bool a) (.bool b)).run P w = .ok (a == b) w := equal_bool_in 9999 h
end Go.Ai

/- Operations that touch no memory, continued. -/
namespace Go.Ai
open Go.RowKit

theorem eqGuard_ok {P : Program} {w : World} {op : BinOp} {t : TypeId} {ox oy : Operand} {v u : Value} (hv : ∀ cs, v ≠ .agg cs) (h : v = .nilIface → u = .nilIface → (isConst ox || isConst oy) = true) :
    (eqGuard op t ox oy v u).run P w = .ok () w := by
  cases v with
  | agg cs => exact absurd rfl (hv cs)
  | nilIface =>
    cases u with
    | nilIface =>
      have h := h rfl rfl
      cases op <;> try rfl
      all_goals
        simp only [eqGuard]
        cases ox <;> cases oy <;> simp [isConst] at h ⊢
    | _ => cases op <;> rfl
  | bool b => rw [eqGuard_at_bool]; rfl
  | int k n => rw [eqGuard_at_int]; rfl
  | float k n => rw [eqGuard_at_float]; rfl
  | complex k n m => rw [eqGuard_at_complex]; rfl
  | string s => rw [eqGuard_at_string]; rfl
  | pointer a => rw [eqGuard_at_pointer]; rfl
  | slice a n m => rw [eqGuard_at_slice]; rfl
  | map r => rw [eqGuard_at_map]; rfl
  | chan r => rw [eqGuard_at_chan]; rfl
  | func f a c => rw [eqGuard_at_func]; rfl
  | nilFunc => rw [eqGuard_at_nilFunc]; rfl
  | iface d z => rw [eqGuard_at_iface]; rfl
  | tuple a => rw [eqGuard_at_tuple]; rfl

/-- '==' and '!=' on values that are neither numbers nor texts -/
theorem binOp_other_eql {t : TypeId} {x : A} {c : Nat × Bool} {G : Ghost} {v u : Value} (hx : x.nilness = some c) (hv : V G x v) :
    binOp .eql t v u = (do pure (.bool (← Op.equal t v u))) ∧ binOp .neq t v u = (do pure (.bool (!(← Op.equal t v u)))) := by
  obtain ⟨c, b⟩ := c
  rcases nil_form hx hv with ⟨rfl, a, rfl, e⟩ | ⟨rfl, ⟨rfl, rfl⟩ | ⟨rfl, f, a, d, rfl⟩⟩ | ⟨rfl, ⟨rfl, rfl⟩ | ⟨rfl, f, a, rfl⟩⟩ | ⟨rfl, a, n, m, rfl, e⟩ <;> exact ⟨rfl, rfl⟩

theorem V.int_inv {G : Ghost} {k : IntKind} {n : Int} {v : Value} (h : V G (.int k n) v) : v = .int k n := by cases h; rfl
theorem V.bool_inv {G : Ghost} {b : Bool} {v : Value} (h : V G (.bool b) v) : v = .bool b := by cases h; rfl
theorem V.str_inv {G : Ghost} {s : List UInt8} {v : Value} (h : V G (.str s) v) : v = .string ⟨s.toArray⟩ := by cases h; rfl

theorem eqA_nilness {k : Kd} {x y : A} {b : Bool} (h : eqA k x y = some b) : ∃ c d, x.nilness = some c ∧ y.nilness = some d := by
  unfold eqA at h
  split at h
  · rename_i h1 h2 h3; exact ⟨_, _, h1, h2⟩
  · cases h

theorem not_agg_of_nilness {G : Ghost} {x : A} {v : Value} {c : Nat × Bool} (h : x.nilness = some c) (hv : V G x v) : ∀ cs, v ≠ .agg cs := by
  intro cs e; subst e; cases hv <;> simp [A.nilness] at h

theorem kindT_int' {P : Program} {t : Nat} {k : IntKind} (h : kindT P t = .int k) : P.underlying t = some (.int k) := by
  unfold kindT at h
  split at h <;> first | cases h | skip
  assumption
theorem kindT_str' {P : Program} {t : Nat} (h : kindT P t = .str) : P.underlying t = some .string := by
  unfold kindT at h
  split at h <;> first | (cases h; done) | assumption
theorem part_plain {P : Program} {w : World} {t : Nat} (hk : (kindT P t).flatK = true) {vs : List Value} {off : Nat} {v : Value} (hv : vs[off]? = some v) : (part t ⟨vs⟩ off).run P w = .ok v w := by
  have ha : (isAgg t).run P w = .ok false w := by
    unfold kindT at hk
    split at hk <;> simp [Kd.flatK] at hk <;> simp [isAgg, run_underlying (by assumption)]
  have hv' : (⟨vs⟩ : Array Value)[off]? = some v := by simpa using hv
  unfold part
  simp only [Sem.run_bind, ha, Result.andThen_ok, Bool.false_eq_true, if_false, hv', Sem.run_pure]
theorem eqsA_cons {xs ys : List A} {o : Nat} {k : Kd} {r : List (Nat × Kd)} : eqsA ((o, k) :: r) xs ys = match k, xs[o]?, ys[o]? with
    | .int _, some (.int a m), some (.int b n) => if a = b then (if m = n then eqsA r xs ys else some false) else none
    | .str, some (.str a), some (.str b) => if a = b then eqsA r xs ys else some false
    | .bool, some (.bool a), some (.bool b) => if a = b then eqsA r xs ys else some false
    | _, _, _ => none := rfl
theorem eqsA_ok {P : Program} {w : World} {G : Ghost} {xs ys : List A} {vs us : List Value} (hv : VF G xs vs) (hu : VF G ys us) {d : Nat} : ∀ (fs : List Field) {b : Bool}, (fs.all fun f => f.name != "_" && (kindT P f.type).flatK) = true → eqsA (fs.map fun f => (f.offset, kindT P f.type)) xs ys = some b →
    (Op.eqFields (d + 1) ⟨vs⟩ ⟨us⟩ fs).run P w = .ok b w
  | [], b, _, h => by simp only [List.map_nil, eqsA, Option.some.injEq] at h; subst h; simp [Op.eqFields]
  | f :: fs, b, hp, h => by
    simp only [List.all_cons, Bool.and_eq_true, bne_iff_ne] at hp
    obtain ⟨⟨hn, hk⟩, hp⟩ := hp
    rw [List.map_cons, eqsA_cons] at h
    have fin : ∀ {x y : Value} {r : Bool}, vs[f.offset]? = some x → us[f.offset]? = some y → (Op.equalIn (d + 1) f.type x y).run P w = .ok r w → (if r = true then eqsA (fs.map fun f => (f.offset, kindT P f.type)) xs ys else some false) = some b →
        (Op.eqFields (d + 1) ⟨vs⟩ ⟨us⟩ (f :: fs)).run P w = .ok b w := by
      intro x y r h1 h2 h3 h4
      unfold Op.eqFields
      simp only [Sem.run_ite, Sem.run_bind, if_pos hn, part_plain hk h1, part_plain hk h2, h3, Result.andThen_ok]
      cases r with
      | true =>
        simp only [Bool.not_true, Bool.false_eq_true, if_false]
        exact eqsA_ok hv hu fs hp (by simpa using h4)
      | false =>
        simp only [Bool.false_eq_true, if_false, Option.some.injEq] at h4
        subst h4
        simp
    split at h
    · rename_i k a m b' n hkk hx hy
      obtain ⟨x, hx1, hx2⟩ := hv.get _ _ hx
      obtain ⟨y, hy1, hy2⟩ := hu.get _ _ hy
      cases V.int_inv hx2; cases V.int_inv hy2
      split at h
      · rename_i hab
        subst hab
        refine fin hx1 hy1 (run_equalIn_int w d f.type a _ m n (kindT_int' hkk)) ?_
        by_cases hmn : m = n <;> simpa [hmn] using h
      · cases h
    · rename_i a b' hkk hx hy
      obtain ⟨x, hx1, hx2⟩ := hv.get _ _ hx
      obtain ⟨y, hy1, hy2⟩ := hu.get _ _ hy
      cases V.str_inv hx2; cases V.str_inv hy2
      refine fin hx1 hy1 (run_equalIn_string w d f.type _ _ (kindT_str' hkk)) ?_
      have e : ((ByteArray.mk a.toArray).toList == (ByteArray.mk b'.toArray).toList) = decide (a = b') := by
        rw [ByteArray.toList_eq, ByteArray.toList_eq]
        simp only []
        rw [Bool.eq_iff_iff]; simp
      rw [e]
      by_cases hab : a = b' <;> simpa [hab] using h
    · rename_i a b' hkk hx hy
      obtain ⟨x, hx1, hx2⟩ := hv.get _ _ hx
      obtain ⟨y, hy1, hy2⟩ := hu.get _ _ hy
      cases V.bool_inv hx2; cases V.bool_inv hy2
      refine fin hx1 hy1 (equal_bool_in d hkk) ?_
      by_cases hab : a = b' <;> simpa [hab] using h
    · cases h
theorem eqs_run {P : Program} {w : World} {G : Ghost} {t : Nat} {ks : List (Nat × Kd)} {xs ys : List A} {b : Bool} (hk : eqsT P t = some ks) (h : eqsA ks xs ys = some b) {vs us : List Value} (hv : VF G xs vs) (hu : VF G ys us) (op : BinOp) (ox oy : Operand) :
    (eqGuard op t ox oy (.agg ⟨vs⟩) (.agg ⟨us⟩)).run P w = .ok () w ∧ (Op.equalIn 10000 t (.agg ⟨vs⟩) (.agg ⟨us⟩)).run P w = .ok b w := by
  unfold eqsT at hk
  split at hk
  · rename_i fs hu'
    split at hk
    · rename_i hh
      obtain ⟨h1, h2, h3⟩ := hh
      simp only [Option.some.injEq] at hk; subst hk
      have hf : P.fieldsOf t = fs := by unfold Program.fieldsOf; rw [hu']
      refine ⟨run_eqGuard_agg w op t ox oy _ _ h2, ?_⟩
      rw [run_equalIn_agg w 9999 t _ _ (by rw [hf]; exact hu') h1, hf]
      exact eqsA_ok (d := 9998) hv hu _ h3 h
    · cases hk
  · cases hk

theorem binA_ok {P : Program} {w : World} {G : Ghost} {op : BinOp} {t : TypeId} {ox oy : Operand} {x y r : A} {v u : Value}
    (h : binA P op t (isConst ox || isConst oy) x y = some r) (hv : V G x v) (hu : V G y u) :
    ∃ z, (do eqGuard op t ox oy v u; binOp op t v u : Sem Value).run P w = .ok z w ∧ V G r z := by
  have seq : ∀ z, (∀ cs, v ≠ .agg cs) → (v = .nilIface → u = .nilIface → (isConst ox || isConst oy) = true) → (binOp op t v u).run P w = .ok z w →
      (do eqGuard op t ox oy v u; binOp op t v u : Sem Value).run P w = .ok z w := by
    intro z h1 h2 h3
    simp only [Sem.run_bind, eqGuard_ok h1 h2, Result.andThen_ok, h3]
  unfold binA at h
  split at h
  · rename_i k a k' b
    cases V.int_inv hv; cases V.int_inv hu
    split at h
    · cases h
    · rename_i hb
      simp only [Option.some.injEq] at h; subst h
      exact ⟨_, seq _ (by simp) (by simp) (by rw [binOp_shl]; simp [Op.shift, hb]), .int⟩
  · rename_i k a k' b
    cases V.int_inv hv; cases V.int_inv hu
    split at h
    · cases h
    · rename_i hb
      simp only [Option.some.injEq] at h; subst h
      exact ⟨_, seq _ (by simp) (by simp) (by rw [binOp_shr]; simp [Op.shift, hb]), .int⟩
  · rename_i k a k' b
    cases V.int_inv hv; cases V.int_inv hu
    split at h
    · rename_i hk; subst hk
      obtain ⟨z, h1, h2⟩ := intA_ok (P := P) (w := w) (t := t) h
      exact ⟨z, seq z (by simp) (by simp) h1, h2 G⟩
    · cases h
  · rename_i a b
    cases V.str_inv hv; cases V.str_inv hu
    obtain ⟨z, h1, h2⟩ := strA_ok (P := P) (w := w) (t := t) h
    exact ⟨z, seq z (by simp) (by simp) h1, h2 G⟩
  · rename_i a b
    cases V.bool_inv hv; cases V.bool_inv hu
    split at h
    · rename_i hk
      simp only [Option.some.injEq] at h; subst h
      refine ⟨.bool (a == b), seq _ (by simp) (by simp) ?_, .bool⟩
      have : binOp .eql t (.bool a) (.bool b) = (do pure (.bool (← Op.equal t (.bool a) (.bool b)))) := rfl
      rw [this]; simp [equal_bool hk]
    · cases h
  · rename_i a b
    cases V.bool_inv hv; cases V.bool_inv hu
    split at h
    · rename_i hk
      simp only [Option.some.injEq] at h; subst h
      refine ⟨.bool !(a == b), seq _ (by simp) (by simp) ?_, .bool⟩
      have : binOp .neq t (.bool a) (.bool b) = (do pure (.bool !(← Op.equal t (.bool a) (.bool b)))) := rfl
      rw [this]; simp [equal_bool hk]
    · cases h
  · simp only [Option.bind_eq_some_iff, Option.map_eq_some_iff] at h
    obtain ⟨ks, hk, b, hb, rfl⟩ := h
    cases hv with | agg hv1 _ =>
    cases hu with | agg hu1 _ =>
    obtain ⟨e1, e2⟩ := eqs_run (w := w) hk hb hv1 hu1 .eql ox oy
    refine ⟨.bool b, ?_, .bool⟩
    simp only [Sem.run_bind, e1, Result.andThen_ok, run_eql_struct, e2]
  · simp only [Option.bind_eq_some_iff, Option.map_eq_some_iff] at h
    obtain ⟨ks, hk, b, hb, rfl⟩ := h
    cases hv with | agg hv1 _ =>
    cases hu with | agg hu1 _ =>
    obtain ⟨e1, e2⟩ := eqs_run (w := w) hk hb hv1 hu1 .neq ox oy
    refine ⟨.bool !b, ?_, .bool⟩
    simp only [Sem.run_bind, e1, Result.andThen_ok, run_neq_struct, e2]
  · split at h
    · rename_i hc
      simp only [Option.map_eq_some_iff] at h
      obtain ⟨b, hb, rfl⟩ := h
      obtain ⟨c, d, hx, hy⟩ := eqA_nilness hb
      refine ⟨.bool b, seq _ (not_agg_of_nilness hx hv) (fun _ _ => hc) ?_, .bool⟩
      rw [(binOp_other_eql hx hv).1]; simp [eqA_ok hb hv hu]
    · cases h
  · split at h
    · rename_i hc
      simp only [Option.map_eq_some_iff] at h
      obtain ⟨b, hb, rfl⟩ := h
      obtain ⟨c, d, hx, hy⟩ := eqA_nilness hb
      refine ⟨.bool !b, seq _ (not_agg_of_nilness hx hv) (fun _ _ => hc) ?_, .bool⟩
      rw [(binOp_other_eql hx hv).2]; simp [eqA_ok hb hv hu]
    · cases h
  · cases h

theorem VF.mapM {G : Ghost} {fr : Fr} {a : Act} (hf : ∀ t, V G (fr t) (a.tmps.getD t undef)) : ∀ {xs : List Operand} {us : List A}, xs.mapM (evw fr) = some us → VF G us (xs.map a.eval)
  | [], us, h => by simp at h; subst h; exact .nil
  | x :: xs, us, h => by
    simp only [List.mapM_cons, Option.bind_eq_bind, Option.bind_eq_some_iff, Option.pure_def, Option.some.injEq] at h
    obtain ⟨u, hu, us', hus, rfl⟩ := h
    exact .cons (V.evw hf hu) (VF.mapM hf hus)

theorem V.evn {G : Ghost} {fr : Fr} {a : Act} (hf : ∀ t, V G (fr t) (a.tmps.getD t undef)) {x : Operand} {u : A} (h : evn fr x = some u) : V G u (a.eval x) := by
  simp only [Ai.evn, Option.map_eq_some_iff] at h
  obtain ⟨b, hb, rfl⟩ := h
  exact (V.ev hf hb).noOwn
theorem VF.mapMn {G : Ghost} {fr : Fr} {a : Act} (hf : ∀ t, V G (fr t) (a.tmps.getD t undef)) : ∀ {xs : List Operand} {us : List A}, xs.mapM (evn fr) = some us → VF G us (xs.map a.eval)
  | [], us, h => by simp at h; subst h; exact .nil
  | x :: xs, us, h => by
    simp only [List.mapM_cons, Option.bind_eq_bind, Option.bind_eq_some_iff, Option.pure_def, Option.some.injEq] at h
    obtain ⟨u, hu, us', hus, rfl⟩ := h
    exact .cons (V.evn hf hu) (VF.mapMn hf hus)
theorem VF.argsA {E : Env} {G : Ghost} {fr : Fr} {a : Act} {g : Operand} (hf : ∀ t, V G (fr t) (a.tmps.getD t undef)) {xs : List Operand} {us : List A} (h : argsA E fr g xs = some us) : VF G us (xs.map a.eval) := by
  unfold Ai.argsA at h
  split at h
  · exact VF.mapMn hf h
  · exact VF.mapM hf h

theorem unbytes_ok {G : Ghost} : ∀ {xs : List (List A)} {bs : List UInt8} {vs : List Value}, unbytes xs = some bs → VF G xs.flatten vs → vs = bs.map fun b => .int .u8 b.toNat
  | [], bs, vs, h, hv => by
    simp [unbytes] at h; subst h; simp at hv; cases hv; rfl
  | x :: xs, bs, vs, h, hv => by
    unfold unbytes at h
    split at h
    · cases ‹_ = []›
    · rename_i n xs' heq
      simp only [List.cons.injEq] at heq
      obtain ⟨rfl, rfl⟩ := heq
      split at h
      · rename_i hn
        simp only [Option.map_eq_some_iff] at h
        obtain ⟨bs', hb, rfl⟩ := h
        simp only [List.flatten_cons, List.cons_append, List.nil_append] at hv
        cases hv with
        | cons h1 h2 =>
          cases V.int_inv h1
          rw [unbytes_ok hb h2]
          simp only [List.map_cons, List.cons.injEq, and_true, Value.int.injEq, true_and]
          have : (UInt8.ofNat n.toNat).toNat = n.toNat := by simp [UInt8.toNat_ofNat']; omega
          rw [this]; omega
      · cases h
    · cases h

theorem bytesA_length (s : List UInt8) : (bytesA s).length = s.length := by simp [bytesA]
theorem unbytes_bytesA (s : List UInt8) : unbytes (bytesA s) = some s := by
  induction s with
  | nil => rfl
  | cons b s ih =>
    have : ((b.toNat : Nat) : Int).toNat = b.toNat := by omega
    have h2 : (0 : Int) ≤ (b.toNat : Int) ∧ (b.toNat : Int) < 256 := ⟨by omega, by have := b.toNat_lt; omega⟩
    show unbytes ([.int .u8 (b.toNat : Int)] :: bytesA s) = _
    simp only [unbytes, if_pos h2, ih, Option.map_some, this]
    simp
end Go.Ai

/- Operations that touch no memory: fields, indexes, parts of texts and slices, structs built. -/
namespace Go.Ai
open Go.RowKit

theorem shapeT_ok {P : Program} {t n : Nat} {g : Bool} (h : shapeT P t = some (n, g)) : ∃ i d, P.info? t = some i ∧ P.underlying t = some d ∧ i.size = n ∧
    ∀ w, (isAgg t).run P w = .ok g w := by
  unfold shapeT at h
  split at h <;> simp only [Option.some.injEq, Prod.mk.injEq, reduceCtorEq] at h
  · obtain ⟨rfl, rfl⟩ := h
    rename_i i fs h1 h2
    exact ⟨i, _, h1, h2, rfl, fun w => by simp [isAgg, run_underlying h2]⟩
  · obtain ⟨rfl, rfl⟩ := h
    rename_i i a b h1 h2
    exact ⟨i, _, h1, h2, rfl, fun w => by simp [isAgg, run_underlying h2]⟩
  · obtain ⟨rfl, rfl⟩ := h
    rename_i i d h1 h2 h3 h4
    refine ⟨i, d, h3, h4, rfl, fun w => ?_⟩
    cases d <;> simp_all [isAgg, run_underlying h4]

theorem run_sizeOf' {P : Program} {t : Nat} {i : TypeInfo} (h : P.info? t = some i) (w : World) : (sizeOf t).run P w = .ok i.size w := by simp [sizeOf, typeInfo, h]

/-- a part of a struct's cells -/
theorem pickCells_ok {P : Program} {w : World} {G : Ghost} {t n off : Nat} {g : Bool} {cs : List A} {vs : List Value} {r : A} (hs : shapeT P t = some (n, g))
    (h : pickCells g cs off n = some r) (hv : VF G cs vs) (h1 : ∀ v ∈ vs, v.oneCell' = true) : ∃ z, (part t vs.toArray off).run P w = .ok z w ∧ V G r z := by
  obtain ⟨i, d, hi, hd, rfl, hg⟩ := shapeT_ok hs
  unfold pickCells at h
  cases g with
  | true =>
    simp only [if_true] at h
    split at h
    · simp only [Option.some.injEq] at h; subst h
      refine ⟨.agg ⟨(vs.drop off).take i.size⟩, ?_, .agg ((hv.drop off).take i.size).noOwn1 (fun v hm => h1 v (List.mem_of_mem_drop (List.mem_of_mem_take hm)))⟩
      simp only [part, Sem.run_bind, hg, Result.andThen_ok, if_true, run_sizeOf' hi, Sem.run_pure]
      simp
    · cases h
  | false =>
    simp only [Bool.false_eq_true, if_false, Option.map_eq_some_iff] at h
    obtain ⟨u, hu, rfl⟩ := h
    obtain ⟨v, hv1, hv2⟩ := hv.get off u hu
    refine ⟨v, ?_, hv2.noOwn1⟩
    simp [part, hg, hv1]

theorem partT_ok {P : Program} {s f off n : Nat} {g : Bool} (h : partT P s f = some (off, n, g)) : ∃ fs fd, P.underlying s = some (.struct fs) ∧ fs[f]? = some fd ∧ fd.offset = off ∧ shapeT P fd.type = some (n, g) := by
  unfold partT at h
  split at h
  · rename_i fs hu
    split at h
    · rename_i fd hf
      simp only [Option.map_eq_some_iff, Prod.mk.injEq] at h
      obtain ⟨q, hq, rfl, rfl, rfl⟩ := h
      exact ⟨fs, fd, hu, hf, rfl, by rw [hq]⟩
    · cases h
  · cases h

theorem fieldT_ok {P : Program} {s f k : Nat} (h : fieldT P s f = some k) (b o : Nat) (w : World) : (Instr.fieldAt s (.pointer (some ⟨b, o, none⟩)) f).run P w = .ok (.pointer (some ⟨b, o + k, none⟩)) w := by
  unfold fieldT at h
  split at h
  · rename_i fs hu
    split at h
    · rename_i fd hf
      split at h
      · rename_i m hm
        simp only [Option.some.injEq] at h; subst h
        simp only [szT, Option.map_eq_some_iff] at hm
        obtain ⟨i, hi, him⟩ := hm
        simp [Instr.fieldAt, run_underlying hu, hf, Instr.sureAddr, fieldPlace, run_sizeOf' hi, him, Addr.add_lit]
      · cases h
    · cases h
  · cases h

theorem get_mk (l : List UInt8) (i : Nat) : (ByteArray.mk l.toArray)[i]? = l[i]? := by
  by_cases h : i < l.length
  · have h' : i < (ByteArray.mk l.toArray).size := by rw [size_mk]; exact h
    rw [getElem?_pos _ i h', List.getElem?_eq_getElem h]
    rfl
  · rw [getElem?_neg _ i (by rw [size_mk]; exact h), List.getElem?_eq_none (by omega)]

theorem extract_mk (l : List UInt8) (i j : Nat) : (ByteArray.mk l.toArray).extract i j = ByteArray.mk ((l.take j).drop i).toArray := by
  apply ByteArray.ext
  rw [ByteArray.data_extract]
  apply Array.ext'
  simp [List.drop_take]

theorem natOf_form {G : Ghost} {n m : Nat} {a : A} {v : Value} (h : natOf n a = some m) (hv : V G a v) : m ≤ n ∧ ∃ k i, v = .int k i ∧ 0 ≤ i ∧ i ≤ n ∧ i.toNat = m := by
  cases hv with
  | @int k i =>
    simp only [natOf] at h
    split at h
    · rename_i hi
      simp only [Option.some.injEq] at h; subst h
      exact ⟨by omega, k, i, rfl, hi.1, hi.2, rfl⟩
    · cases h
  | _ => simp [natOf] at h
theorem run_sliceBound {P : Program} {w : World} {k : IntKind} {i : Int} {n : Nat} {code : BoundsCode} (h0 : 0 ≤ i) (h1 : i ≤ n) : (Instr.sliceBound (.int k i) n code).run P w = .ok i.toNat w := by
  simp [Instr.sliceBound, asIntOf, h0, h1]

theorem V.evo {G : Ghost} {fr : Fr} {a : Act} (hf : ∀ t, V G (fr t) (a.tmps.getD t undef)) {x : Option Operand} {u : Option A} (h : evo fr x = some u) :
    (x = none ∧ u = none) ∨ ∃ y b, x = some y ∧ u = some b ∧ V G b (a.eval y) := by
  cases x with
  | none => simp [Ai.evo] at h; exact .inl ⟨rfl, h.symm⟩
  | some y =>
    simp only [Ai.evo, Option.map_eq_some_iff] at h
    obtain ⟨b, hb, rfl⟩ := h
    exact .inr ⟨y, b, rfl, rfl, V.evw hf hb⟩

/-- bounds of a part, low and high -/
theorem bounds_ok {P : Program} {w : World} {G : Ghost} {a : Act} {lo hi : Option A} {xl xh : Option Operand} {isS : Bool} {n cap m l : Nat} (hm : hiOf n hi = some m) (hl : loOf m lo = some l) (hc : n ≤ cap)
    (h1 : (xl = none ∧ lo = none) ∨ ∃ y b, xl = some y ∧ lo = some b ∧ V G b (a.eval y)) (h2 : (xh = none ∧ hi = none) ∨ ∃ y b, xh = some y ∧ hi = some b ∧ V G b (a.eval y)) :
    (Instr.sliceBounds isS n cap (xl.map a.eval) (xh.map a.eval) none).run P w = .ok (l, m, cap) w := by
  rcases h1 with ⟨rfl, rfl⟩ | ⟨y, b, rfl, rfl, hy⟩ <;> rcases h2 with ⟨rfl, rfl⟩ | ⟨y', b', rfl, rfl, hy'⟩
  · simp [hiOf, loOf] at hm hl; subst hm; subst hl
    simp [Instr.sliceBounds]
  · simp [loOf] at hl; subst hl
    obtain ⟨_, k, i, e, h0, h1, h2⟩ := natOf_form hm hy'
    simp [Instr.sliceBounds, e, run_sliceBound (n := cap) h0 (by omega), h2]
  · simp [hiOf] at hm; subst hm
    obtain ⟨_, k, i, e, h0, h1, h2⟩ := natOf_form hl hy
    simp [Instr.sliceBounds, e, run_sliceBound h0 h1, h2]
  · obtain ⟨_, k, i, e, h0, h1, h2⟩ := natOf_form hm hy'
    obtain ⟨_, k', i', e', h0', h1', h2'⟩ := natOf_form hl hy
    simp [Instr.sliceBounds, e, e', run_sliceBound (n := cap) h0 (by omega), h2, run_sliceBound h0' h1', h2']

theorem VS.size {G : Ghost} {sz s b o : Nat} {xs : List (List A)} (h : VS G sz xs b o) (hl : headLen s xs = true) : VS G s xs b o := by
  cases h with
  | nil => exact .nil
  | cons l h hs =>
    have : s = sz := by simp [headLen] at hl; omega
    subst this; exact .cons l h hs

theorem slice_ok {P : Program} {w : World} {G : Ghost} {a : Act} {t : Nat} {x r : A} {v : Value} {lo hi : Option A} {xl xh : Option Operand}
    (h : sliceA (kindT P t) (szT P) x lo hi = some r) (hv : V G x v)
    (h1 : (xl = none ∧ lo = none) ∨ ∃ y b, xl = some y ∧ lo = some b ∧ V G b (a.eval y)) (h2 : (xh = none ∧ hi = none) ∨ ∃ y b, xh = some y ∧ hi = some b ∧ V G b (a.eval y)) :
    ∃ z, (Instr.sliceAt t v (xl.map a.eval) (xh.map a.eval) none).run P w = .ok z w ∧ V G r z := by
  unfold sliceA at h
  split at h
  · rename_i s hk
    cases V.str_inv hv
    simp only [Option.bind_eq_some_iff, Option.map_eq_some_iff] at h
    obtain ⟨m, hm, l, hl, rfl⟩ := h
    have hb := bounds_ok (P := P) (w := w) (isS := false) hm hl (Nat.le_refl _) h1 h2
    refine ⟨.string ⟨((s.take m).drop l).toArray⟩, ?_, .str⟩
    simp [Instr.sliceAt, Instr.slice, run_underlying (kindT_str hk), size_mk, hb, extract_mk]
  · rename_i e xs own hk
    split at h
    · rename_i s hs
      split at h
      · rename_i hl
        simp only [szT, Option.map_eq_some_iff] at hs
        obtain ⟨i, hi', rfl⟩ := hs
        simp only [Option.bind_eq_some_iff, Option.map_eq_some_iff] at h
        obtain ⟨m, hm, l, hl2, rfl⟩ := h
        have hmn : m ≤ xs.length := by
          cases hi with
          | none => simp [hiOf] at hm; omega
          | some u => simp only [hiOf] at hm; cases u <;> simp [natOf] at hm; omega
        have hlm : l ≤ m := by
          cases lo with
          | none => simp [loOf] at hl2; omega
          | some u => simp only [loOf] at hl2; cases u <;> simp [natOf] at hl2; omega
        cases hv with
        | sliceNil =>
          have hb := bounds_ok (P := P) (w := w) (isS := true) hm hl2 (Nat.le_refl _) h1 h2
          have e0 : m = 0 := by simpa using hmn
          have e1 : l = 0 := by omega
          subst e0; subst e1
          refine ⟨.slice none 0 0, ?_, by simpa using .sliceNil⟩
          simp only [List.length_nil] at hb
          simp [Instr.sliceAt, Instr.slice, run_underlying (kindT_slice hk), hb, run_sizeOf' hi']
        | @sliceE a =>
          have hb := bounds_ok (P := P) (w := w) (isS := true) hm hl2 (Nat.le_refl _) h1 h2
          have e0 : m = 0 := by simpa using hmn
          have e1 : l = 0 := by omega
          subst e0; subst e1
          refine ⟨.slice (some a) 0 0, ?_, by simpa using .sliceE⟩
          simp only [List.length_nil] at hb
          simp [Instr.sliceAt, Instr.slice, run_underlying (kindT_slice hk), hb, run_sizeOf' hi']
        | @slice _ _ b o cap sz hvs hcap hown =>
          have hb := bounds_ok (P := P) (w := w) (isS := true) hm hl2 hcap h1 h2
          have hvs' := hvs.size hl
          have hlen : m - l = ((xs.take m).drop l).length := by simp; omega
          by_cases hcl : cap = l
          · subst hcl
            refine ⟨.slice (some ⟨b, o, none⟩) ((xs.take m).drop cap).length 0, ?_, ?_⟩
            · simp [Instr.sliceAt, Instr.slice, run_underlying (kindT_slice hk), hb, run_sizeOf' hi', ← hlen]
            · have : (xs.take m).drop cap = [] := by apply List.drop_eq_nil_of_le; simp; omega
              rw [this]
              exact .slice (sz := i.size) .nil (by simp) (fun _ h => by cases h)
          · refine ⟨.slice (some ⟨b, o + l * i.size, none⟩) ((xs.take m).drop l).length (cap - l), ?_, ?_⟩
            · simp [Instr.sliceAt, Instr.slice, run_underlying (kindT_slice hk), hb, run_sizeOf' hi', hcl, ← hlen, Addr.add_lit]
            · exact .slice (sz := i.size) ((hvs'.take m).drop l) (by rw [← hlen]; omega) (fun _ h => by cases h)
      · cases h
    · cases h
  · cases h
end Go.Ai

/- Operations that touch no memory: all. -/
namespace Go.Ai
open Go.RowKit

theorem placesT_ok {P : Program} {t : Nat} {pl : List (Nat × Nat)} (h : placesT P t = some pl) : ∃ fs, P.underlying t = some (.struct fs) ∧ fs.toList.mapM (fun f => (P.info? f.type).map fun i => (f.offset, i.size)) = some pl := by
  unfold placesT at h
  split at h
  · rename_i fs hu; exact ⟨fs, hu, h⟩
  · cases h

theorem VF.ofConst {G : Ghost} : ∀ {vs : List Value} {as : List A}, vs.mapM ofConst = some as → VF G as vs ∧ ∀ v ∈ vs, v.oneCell' = true
  | [], as, h => by simp at h; subst h; exact ⟨.nil, by simp⟩
  | v :: vs, as, h => by
    simp only [List.mapM_cons, Option.bind_eq_bind, Option.bind_eq_some_iff, Option.pure_def, Option.some.injEq] at h
    obtain ⟨u, hu, us', hus, rfl⟩ := h
    obtain ⟨h1, h2⟩ := VF.ofConst (G := G) hus
    refine ⟨.cons (V.ofConst hu) h1, fun x hx => ?_⟩
    rcases List.mem_cons.1 hx with rfl | hx
    · unfold Ai.ofConst at hu; split at hu <;> first | rfl | cases hu
    · exact h2 x hx

theorem zeroT_ok {P : Program} {t : Nat} {z : List A} (h : zeroT P t = some z) : ∃ i v, P.info? t = some i ∧ i.zero = some v ∧ ∀ G, VF G z v.cells.toList ∧ ∀ u ∈ v.cells.toList, u.oneCell' = true := by
  unfold zeroT at h
  cases hi : P.info? t with
  | none => simp [hi] at h
  | some i =>
    simp only [hi, Option.bind_some] at h
    split at h
    · rename_i cs hz
      exact ⟨i, _, rfl, hz, fun G => VF.ofConst h⟩
    · rename_i v hne hz
      simp only [Option.map_eq_some_iff] at h
      obtain ⟨a, ha, rfl⟩ := h
      refine ⟨i, v, rfl, hz, fun G => ?_⟩
      have e : v.cells = #[v] := by cases v <;> first | rfl | exact absurd rfl (hne _)
      rw [e]
      refine ⟨.cons (V.ofConst ha) .nil, ?_⟩
      intro u hu
      simp at hu; subst hu
      unfold Ai.ofConst at ha; split at ha <;> first | rfl | cases ha
    · cases h

/-- cells stored one by one -/
theorem foldl_set (off : Nat) : ∀ (vs : List Value) (k : Nat) (cs : List Value), off + k + vs.length ≤ cs.length →
    (vs.zipIdx k).foldl (fun (cs : Array Value) (c, j) => cs.setIfInBounds (off + j) c) cs.toArray = (cs.take (off + k) ++ vs ++ cs.drop (off + k + vs.length)).toArray
  | [], k, cs, h => by simp
  | v :: vs, k, cs, h => by
    simp only [List.length_cons] at h
    have e : cs.toArray.setIfInBounds (off + k) v = (cs.set (off + k) v).toArray := by
      simp
    simp only [List.zipIdx_cons, List.foldl_cons, e]
    have ih := foldl_set off vs (k + 1) (cs.set (off + k) v) (by simp; omega)
    rw [ih]
    congr 1
    apply List.ext_getElem?
    intro j
    simp only [List.getElem?_append, List.length_append, List.length_take, List.length_set, List.getElem?_take, List.getElem?_drop, List.getElem?_set, List.length_cons, List.getElem?_cons]
    grind

theorem splice_ok {G : Ghost} {cs vs r : List A} {off : Nat} {us ws : List Value} (h : splice cs off vs = some r) (h1 : VF G cs us) (h2 : VF G vs ws) :
    off + ws.length ≤ us.length ∧ VF G r (us.take off ++ ws ++ us.drop (off + ws.length)) := by
  unfold splice at h
  split at h
  · simp only [Option.some.injEq] at h; subst h
    rename_i hl
    have e1 := h1.length; have e2 := h2.length
    exact ⟨by omega, by rw [e2]; exact ((h1.take off).append h2).append (h1.drop _)⟩
  · cases h

inductive VP (G : Ghost) : List (Nat × A) → List (Nat × Value) → Prop
  | nil : VP G [] []
  | cons {i a v as vs} : V G a v → VP G as vs → VP G ((i, a) :: as) ((i, v) :: vs)

theorem VP.of {G : Ghost} {fr : Fr} {a : Act} (hf : ∀ t, V G (fr t) (a.tmps.getD t undef)) : ∀ {xs : List (Nat × Operand)} {us : List (Nat × A)}, xs.mapM (evp fr) = some us → VP G us (xs.map fun (i, x) => (i, a.eval x))
  | [], us, h => by simp at h; subst h; exact .nil
  | (i, x) :: xs, us, h => by
    simp only [List.mapM_cons, Option.bind_eq_bind, Option.bind_eq_some_iff, Option.pure_def, Option.some.injEq] at h
    obtain ⟨u, hu, us', hus, rfl⟩ := h
    simp only [evp, Option.map_eq_some_iff] at hu
    obtain ⟨b, hb, rfl⟩ := hu
    exact .cons (V.evw hf hb) (VP.of hf hus)

theorem VP.ofK {G : Ghost} {fr : Fr} {a : Act} {k : Bool} (hf : ∀ t, V G (fr t) (a.tmps.getD t undef)) : ∀ {xs : List (Nat × Operand)} {us : List (Nat × A)}, xs.mapM (evpK k fr) = some us → VP G us (xs.map fun (i, x) => (i, a.eval x))
  | [], us, h => by simp at h; subst h; exact .nil
  | (i, x) :: xs, us, h => by
    simp only [List.mapM_cons, Option.bind_eq_bind, Option.bind_eq_some_iff, Option.pure_def, Option.some.injEq] at h
    obtain ⟨u, hu, us', hus, rfl⟩ := h
    cases k with
    | true =>
      simp only [evpK, evp, Option.map_eq_some_iff] at hu
      obtain ⟨b, hb, rfl⟩ := hu
      exact .cons (V.evw hf hb) (VP.ofK hf hus)
    | false =>
      simp only [evpK, evn, Option.map_map, Option.map_eq_some_iff] at hu
      obtain ⟨b, hb, rfl⟩ := hu
      exact .cons (V.ev hf hb).noOwn (VP.ofK hf hus)

theorem fillA_ok {G : Ghost} {pl : List (Nat × Nat)} : ∀ {ps : List (Nat × A)} {qs : List (Nat × Value)} {cs r : List A} {us : List Value}, fillA pl cs ps = some r → VP G ps qs → VF G cs us → (∀ v ∈ us, v.oneCell' = true) →
    ∃ ws, Instr.fill (pl.toArray[·]?) us.toArray qs = some ws.toArray ∧ VF G r ws ∧ ∀ v ∈ ws, v.oneCell' = true
  | [], qs, cs, r, us, h, hp, hc, h1 => by
    cases hp; simp only [fillA, Option.some.injEq] at h; subst h
    exact ⟨us, rfl, hc, h1⟩
  | (i, a) :: ps, qs, cs, r, us, h, hp, hc, h1 => by
    cases hp with
    | @cons _ _ v _ vs hv hp =>
      simp only [fillA] at h
      split at h
      · rename_i off n cl hpl hcl
        split at h
        · rename_i hn
          simp only [Option.bind_eq_some_iff] at h
          obtain ⟨cs', hs, hr⟩ := h
          obtain ⟨hc1, hc2⟩ := hv.cells hcl
          obtain ⟨hb, hc'⟩ := splice_ok hs hc hc1
          obtain ⟨ws, hf, hw, hw1⟩ := fillA_ok (us := us.take off ++ v.cells.toList ++ us.drop (off + v.cells.toList.length)) hr hp hc' (by
            intro x hx
            simp only [List.mem_append] at hx
            rcases hx with (hx | hx) | hx
            · exact h1 x (List.mem_of_mem_take hx)
            · exact hc2 x hx
            · exact h1 x (List.mem_of_mem_drop hx))
          refine ⟨ws, ?_, hw, hw1⟩
          have e1 := hc1.length
          have e2 : v.cells.size = n := by rw [← hn, ← e1]; simp
          have hpl' : pl.toArray[i]? = some (off, n) := by simpa using hpl
          simp only [Instr.fill, hpl', e2]
          rw [if_neg (by simp; simp at hb; omega)]
          have hfold := foldl_set off v.cells.toList 0 us (by simpa using hb)
          rw [← hf]
          congr 1
          simp only [Nat.add_zero] at hfold
          rw [← hfold, ← Array.foldl_toList]
          simp
        · cases h
      · cases h

theorem run_build' {P : Program} {w : World} {G : Ghost} {t : Nat} {z : List A} {pl : List (Nat × Nat)} {ps : List (Nat × A)} {qs : Array (Nat × Value)} {r : List A} (hz : zeroT P t = some z) (hpl : placesT P t = some pl)
    (hf : fillA pl z ps = some r) (hp : VP G ps qs.toList) : ∃ v, (Instr.build t qs).run P w = .ok v w ∧ V G (.agg r) v := by
  obtain ⟨i, zv, hi, hzv, hz'⟩ := zeroT_ok hz
  obtain ⟨h1, h2⟩ := hz' G
  obtain ⟨fs, hu, hpl'⟩ := placesT_ok hpl
  obtain ⟨ws, hw, hw1, hw2⟩ := fillA_ok hf hp h1 h2
  refine ⟨.agg ⟨ws⟩, run_build w t qs _ ?_, .agg hw1 hw2⟩
  unfold Program.built
  simp only [hi, hu, hzv, hpl']
  simpa using hw
end Go.Ai

/- Operations that touch no memory: the evaluator's answer is the model's. -/
namespace Go.Ai
open Go.RowKit

theorem szT_ok {P : Program} {t n : Nat} (h : szT P t = some n) : ∃ i, P.info? t = some i ∧ i.size = n := by
  simp only [szT, Option.map_eq_some_iff] at h; exact h

theorem headLen_of {s : Nat} {x : List A} (h : x.length = s) : headLen s [x] = true := by simp [headLen, h]

theorem indexAt_ok {P : Program} {w : World} {G : Ghost} {t e s : Nat} {xs : List (List A)} {own : Option (Nat × Nat)} {n : Int} {c : List A} {k : IntKind} {v : Value} (hk : kindT P t = .slice e) (hs : szT P e = some s)
    (hv : V G (.slice xs own) v) (h0 : 0 ≤ n) (hc : xs[n.toNat]? = some c) (hl : c.length = s) : ∃ z, (Instr.indexAt t v (.int k n)).run P w = .ok z w ∧ V G (.ref c 0) z := by
  obtain ⟨i, hi, rfl⟩ := szT_ok hs
  have hu := kindT_slice hk
  have hlt : n.toNat < xs.length := by
    rcases Nat.lt_or_ge n.toNat xs.length with h | h
    · exact h
    · rw [List.getElem?_eq_none h] at hc; cases hc
  cases hv with
  | sliceNil => simp at hc
  | sliceE => simp at hc
  | @slice _ _ b o cap sz hvs hcap hown =>
    obtain ⟨g1, g2⟩ := hvs.get _ _ hc
    have : sz = i.size := by omega
    subst this
    refine ⟨.pointer (some ⟨b, o + n.toNat * i.size, none⟩), ?_, ?_⟩
    · have hn : n < (xs.length : Int) := by omega
      simp [Instr.indexAt, asIntOf, run_underlying hu, h0, hn, run_sizeOf' hi, Addr.add_lit]
    · exact .ref (off := 0) g2

theorem foldl_push (bs : List UInt8) : ∀ r : ByteArray, (bs.map fun b => (b.toNat : Int)).foldl (fun (r : ByteArray) n => r.push (UInt8.ofNat n.toNat)) r = ⟨r.data ++ bs.toArray⟩ := by
  induction bs with
  | nil => intro r; simp
  | cons b bs ih =>
    intro r
    simp only [List.map_cons, List.foldl_cons]
    rw [ih]
    have : UInt8.ofNat ((b.toNat : Int).toNat) = b := by simp
    rw [this]
    apply ByteArray.ext
    simp [ByteArray.push]

/-- cells of bytes read as a text -/
theorem bytesToString_ok {P : Program} {w : World} {b o len cap : Nat} {bs : List UInt8} {vs : List Value} (he : vs = bs.map fun b => Value.int .u8 b.toNat) (hl : vs.length = len)
    (hc : ∀ j v, vs[j]? = some v → w.cell? ⟨b, o + j, none⟩ = some v) : (Conv.bytesToString (.slice (some ⟨b, o, none⟩) len cap)).run P w = .ok (.string ⟨bs.toArray⟩) w := by
  have h1 := run_loadCells_list (P := P) w ⟨b, o, none⟩ vs (fun j v hj => by rw [Addr.add_lit]; exact hc j v hj)
  rw [hl] at h1
  have e : vs = (bs.map fun b => (b.toNat : Int)).map (Value.int .u8) := by rw [he]; simp
  rw [e] at h1
  rw [run_bytesToString w _ len cap _ h1, foldl_push]
  simp [ByteArray.empty, ByteArray.emptyWithCapacity]; rfl

theorem convA_ok {P : Program} {w : World} {G : Ghost} {s d : Nat} {x r : A} {v : Value} (hK : ∀ b o v, G.K b o = some v → w.cell? ⟨b, o, none⟩ = some v) (hV : V G x v) (h : convA P s d x = some r) :
    ∃ z, (convert s d v).run P w = .ok z w ∧ V G r z := by
  unfold convA at h
  split at h
  · rename_i k k' n hk
    split at h
    · rename_i hs
      simp only [Option.some.injEq] at h; subst h
      rw [V.int_inv hV]
      obtain ⟨ds, hs'⟩ := Option.isSome_iff_exists.1 hs
      exact ⟨.int k (k.wrap n), by simp [convert, run_underlying hs', run_underlying (kindT_int hk), Conv.intToInt], .int⟩
    · cases h
  · rename_i b hk
    split at h
    · rename_i hs
      simp only [Option.some.injEq] at h; subst h
      rw [V.str_inv hV]
      exact ⟨_, by simp [convert, run_underlying (kindT_str hs), run_underlying (kindT_str hk)], .str⟩
    · cases h
  · rename_i xs own hk
    split at h
    · rename_i e hs
      split at h
      · rename_i he
        simp only [Option.map_eq_some_iff] at h
        obtain ⟨bs, hb, rfl⟩ := h
        refine ⟨.string ⟨bs.toArray⟩, ?_, .str⟩
        have cvt := fun a l c => run_convert_bytes_string (P := P) w s d e a l c (kindT_slice hs) (kindT_int he) (kindT_str hk)
        cases hV with
        | sliceNil =>
          simp only [unbytes, Option.some.injEq] at hb; subst hb
          rw [cvt]; simp [Conv.bytesToString, ByteArray.empty, ByteArray.emptyWithCapacity]; rfl
        | sliceE =>
          simp only [unbytes, Option.some.injEq] at hb; subst hb
          rw [cvt]; simp [Conv.bytesToString, ByteArray.empty, ByteArray.emptyWithCapacity]; rfl
        | slice hvs hcap hown =>
          obtain ⟨g1, g2, g3⟩ := hvs.flat
          obtain ⟨vs, g4, g5, g6⟩ := g1.vals
          have e1 := unbytes_ok hb g4
          rw [cvt]
          have hlen : ∀ {xs : List (List A)} {bs}, unbytes xs = some bs → xs.length = bs.length := by
            intro xs
            induction xs with
            | nil => intro bs h; simp [unbytes] at h; subst h; rfl
            | cons x xs ih =>
              intro bs h
              unfold unbytes at h
              split at h
              · cases ‹_ = []›
              · rename_i heq
                simp only [List.cons.injEq] at heq
                obtain ⟨rfl, rfl⟩ := heq
                split at h
                · simp only [Option.map_eq_some_iff] at h
                  obtain ⟨bs', hb', rfl⟩ := h
                  simp [ih hb']
                · cases h
              · cases h
          exact bytesToString_ok e1 (by rw [e1, hlen hb]; simp) (fun j v hj => hK _ _ _ (g6 j v hj))
      · cases h
    · cases h
  · rename_i hk
    split at h
    · rename_i e hs
      split at h
      · rename_i he
        simp only [Option.some.injEq] at h; subst h
        cases hV
        refine ⟨.string ⟨#[]⟩, ?_, .str (s := [])⟩
        rw [run_convert_bytes_string (P := P) w s d e none 0 0 (kindT_slice hs) (kindT_int he) (kindT_str hk)]
        simp [Conv.bytesToString, ByteArray.empty, ByteArray.emptyWithCapacity]; rfl
      · cases h
    · cases h
  · cases h

theorem lenA_ok {P : Program} {w : World} {G : Ghost} {t ty : Nat} {x r : A} {v : Value} (h : lenA (kindT P t) x = some r) (hV : V G x v) : ∃ z, (Builtin.len_ #[t] ty #[v]).run P w = .ok z w ∧ V G r z := by
  unfold lenA at h
  split at h
  · rename_i s
    split at h
    · rename_i hk
      simp only [Option.some.injEq] at h; subst h
      rw [V.str_inv hV]
      exact ⟨.int .i64 s.length, by simp [Builtin.len_, run_underlying (kindT_str hk), size_mk, goInt], .int⟩
    · cases h
  · rename_i xs own
    split at h
    · rename_i hk
      simp only [Option.some.injEq] at h; subst h
      cases hV with
      | sliceNil => exact ⟨.int .i64 0, by simp [Builtin.len_, run_underlying (kindT_slice hk), goInt], .int⟩
      | sliceE => exact ⟨.int .i64 0, by simp [Builtin.len_, run_underlying (kindT_slice hk), goInt], .int⟩
      | slice hvs hcap hown => exact ⟨.int .i64 xs.length, by simp [Builtin.len_, run_underlying (kindT_slice hk), goInt], .int⟩
    · cases h
  · split at h
    · rename_i hk
      simp only [Option.some.injEq] at h; subst h
      cases hV
      exact ⟨.int .i64 0, by simp [Builtin.len_, run_underlying (kindT_slice hk), goInt], .int⟩
    · cases h
  · rename_i id off n
    split at h
    · rename_i hk
      simp only [Option.some.injEq] at h; subst h
      cases hV
      exact ⟨.int .i64 n, by simp [Builtin.len_, run_underlying (kindT_slice hk), goInt], .int⟩
    · cases h
  · cases h

theorem pureA_ok {P : Program} {w : World} {G : Ghost} {fr : Fr} {a : Act} {o : Oper} {r : A} (hK : ∀ b o v, G.K b o = some v → w.cell? ⟨b, o, none⟩ = some v) (hf : ∀ t, V G (fr t) (a.tmps.getD t undef)) (h : pureA P fr o = some r) :
    ∃ z, (execOp a.eval o).run P w = .ok (.value z) w ∧ V G r z := by
  have fin : ∀ (s : Sem Value), (∃ z, s.run P w = .ok z w ∧ V G r z) → ∃ z, (do pure (Next.value (← s)) : Sem Next).run P w = .ok (.value z) w ∧ V G r z := by
    rintro s ⟨z, h1, h2⟩
    exact ⟨z, by simp [h1], h2⟩
  unfold pureA at h
  split at h
  · -- binOp
    rename_i op t x y yt hop
    simp only [Option.bind_eq_bind, Option.bind_eq_some_iff] at h
    obtain ⟨u, hu, v, hv, h⟩ := h
    simp only [execOp, hop]
    exact fin _ (binA_ok h (V.evw hf hu) (V.evw hf hv))
  · -- not
    rename_i t x hop
    simp only [Option.bind_eq_bind, Option.bind_eq_some_iff] at h
    obtain ⟨u, hu, h⟩ := h
    split at h
    · rename_i b
      simp only [Option.some.injEq] at h; subst h
      simp only [execOp, hop, V.bool_inv (V.evw hf hu)]
      exact fin _ ⟨_, rfl, .bool⟩
    · cases h
  · -- convert
    rename_i s d x hop
    simp only [Option.bind_eq_bind, Option.bind_eq_some_iff] at h
    obtain ⟨u, hu, h⟩ := h
    simp only [execOp, hop]
    exact fin _ (convA_ok hK (V.evw hf hu) h)
  · -- nilCheck
    rename_i x hop
    simp only [Option.bind_eq_bind, Option.bind_eq_some_iff] at h
    obtain ⟨u, hu, h⟩ := h
    have hV := V.evw hf hu
    simp only [execOp, hop]
    split at h <;> simp only [Option.some.injEq, reduceCtorEq] at h <;> subst h
    · generalize a.eval x = v at hV ⊢
      cases hV with | ptr e => exact ⟨_, rfl, .ptr e⟩
    · generalize a.eval x = v at hV ⊢
      cases hV with | ref e => exact ⟨_, rfl, .ref e⟩
    · generalize a.eval x = v at hV ⊢
      cases hV with | fn e => exact ⟨_, rfl, .fn e⟩
  · -- fieldAddr
    rename_i s x f hop
    simp only [Option.bind_eq_bind, Option.bind_eq_some_iff] at h
    obtain ⟨u, hu, h⟩ := h
    have hV := V.evw hf hu
    simp only [execOp, hop]
    refine fin _ ?_
    split at h <;> simp only [Option.some.injEq, reduceCtorEq] at h <;> subst h
    · rename_i id off k hk
      generalize a.eval x = v at hV ⊢
      cases hV with | ptr e => exact ⟨_, fieldT_ok hk _ _ w, by rw [Nat.add_assoc]; exact .ptr e⟩
    · rename_i cs off k hk
      generalize a.eval x = v at hV ⊢
      cases hV with | ref e => exact ⟨_, fieldT_ok hk _ _ w, by rw [Nat.add_assoc]; exact .ref e⟩
  · -- field
    rename_i t x f hop
    simp only [Option.bind_eq_bind, Option.bind_eq_some_iff] at h
    obtain ⟨u, hu, h⟩ := h
    have hV := V.evw hf hu
    simp only [execOp, hop]
    refine fin _ ?_
    split at h
    · rename_i cs off n g hp
      obtain ⟨fs, fd, h1, h2, h3, h4⟩ := partT_ok hp
      generalize a.eval x = v at hV ⊢
      cases hV with
      | agg e e1 =>
        obtain ⟨z, g1, g2⟩ := pickCells_ok (w := w) h4 h e e1
        exact ⟨z, by simp [Instr.field, run_underlying h1, h2, asAgg, h3, g1], g2⟩
    · cases h
  · -- indexAddr
    rename_i t x i hop
    simp only [Option.bind_eq_bind, Option.bind_eq_some_iff] at h
    obtain ⟨u, hu, j, hj, h⟩ := h
    have hV := V.evw hf hu
    have hJ := V.evw hf hj
    simp only [execOp, hop]
    refine fin _ ?_
    split at h
    · rename_i e xs own k n hk
      split at h
      · rename_i s c hs hc
        split at h
        · rename_i hl
          simp only [Option.some.injEq] at h; subst h
          rw [V.int_inv hJ]
          split at hc
          · rename_i h0
            exact indexAt_ok hk hs hV h0 hc hl
          · cases hc
        · cases h
      · cases h
    · rename_i e id off len k n hk
      split at h
      · rename_i s hs
        split at h
        · rename_i hn
          simp only [Option.some.injEq] at h; subst h
          rw [V.int_inv hJ]
          obtain ⟨i, hi, rfl⟩ := szT_ok hs
          generalize a.eval x = v at hV ⊢
          cases hV with
          | mslice e1 e2 =>
            rename_i b o cap
            exact ⟨.pointer (some ⟨b, o + (off + n.toNat * i.size), none⟩), by simp [Instr.indexAt, asIntOf, run_underlying (kindT_slice hk), hn, run_sizeOf' hi, Addr.add_lit, Nat.add_assoc], .ptr e1⟩
        · cases h
      · cases h
    · cases h
  · -- index
    rename_i t x i hop
    simp only [Option.bind_eq_bind, Option.bind_eq_some_iff] at h
    obtain ⟨u, hu, j, hj, h⟩ := h
    have hV := V.evw hf hu
    have hJ := V.evw hf hj
    simp only [execOp, hop]
    refine fin _ ?_
    split at h
    · rename_i s k n hk
      rw [V.int_inv hJ, V.str_inv hV]
      simp only [Option.map_eq_some_iff] at h
      obtain ⟨b, hb, rfl⟩ := h
      split at hb
      · rename_i h0
        exact ⟨.int .u8 b.toNat, by simp [Instr.index, asIntOf, run_underlying (kindT_str hk), h0, get_mk, hb], .int⟩
      · cases hb
    · cases h
  · -- extract
    rename_i x i hop
    simp only [Option.bind_eq_bind, Option.bind_eq_some_iff] at h
    obtain ⟨u, hu, h⟩ := h
    have hV := V.ev hf hu
    simp only [execOp, hop]
    refine fin _ ?_
    split at h
    · rename_i vs
      simp only [Option.map_eq_some_iff] at h
      obtain ⟨b, hb, rfl⟩ := h
      generalize a.eval x = v at hV ⊢
      cases hV with
      | tuple e =>
        obtain ⟨z, h1, h2⟩ := e.get i b hb
        exact ⟨z, by simp [Instr.extract, h1], h2.weak⟩
    · cases h
  · -- makeFunc
    rename_i f first caps hop
    split at h
    · rename_i h0
      simp only [Option.map_eq_some_iff] at h
      obtain ⟨us, hus, rfl⟩ := h
      have e : first = #[] := by simpa using h0
      simp only [execOp, hop]
      refine fin _ ⟨.func (.func f) #[] ⟨caps.toList.map a.eval⟩, ?_, .fn (VF.mapM hf hus)⟩
      simp [Instr.makeFunc, e]
      exact Array.ext' (by simp)
    · cases h
  · -- pick
    rename_i c x y hop
    simp only [Option.bind_eq_bind, Option.bind_eq_some_iff] at h
    obtain ⟨u, hu, h⟩ := h
    have hV := V.evw hf hu
    split at h
    · rename_i t
      simp only [execOp, hop, V.bool_inv hV]
      cases t
      · exact ⟨a.eval y, by simp [asBool], V.evw hf h⟩
      · exact ⟨a.eval x, by simp [asBool], V.evw hf h⟩
    · cases h
  · -- build
    rename_i t parts hop
    simp only [Option.bind_eq_some_iff, Option.map_eq_some_iff] at h
    obtain ⟨z, hz, pl, hpl, ps, hps, r', hr, rfl⟩ := h
    simp only [execOp, hop]
    refine fin _ ?_
    refine run_build' hz hpl hr ?_
    have := VP.of hf hps
    simpa using this
  · -- slice
    rename_i t x lo hi hop
    simp only [Option.bind_eq_some_iff] at h
    obtain ⟨u, hu, l, hl, m, hm, h⟩ := h
    simp only [execOp, hop]
    exact fin _ (slice_ok h (V.evw hf hu) (V.evo hf hl) (V.evo hf hm))
  · -- builtins
    rename_i b args argTypes hop
    split at h
    · rename_i x t ha ht
      simp only [Option.bind_eq_bind, Option.bind_eq_some_iff] at h
      obtain ⟨u, hu, h⟩ := h
      have ha' : args = #[x] := by rw [← Array.toArray_toList (xs := args), ha]
      have ht' : argTypes = #[t] := by rw [← Array.toArray_toList (xs := argTypes), ht]
      obtain ⟨z, h1, h2⟩ := lenA_ok (P := P) (w := w) (ty := o.type) h (V.evw hf hu)
      refine ⟨z, ?_, h2⟩
      simp [execOp, hop, ha', ht', resolve, invoke, builtin, h1]
    · rename_i x y ha
      simp only [Option.bind_eq_bind, Option.bind_eq_some_iff] at h
      obtain ⟨u, hu, v, hv, h⟩ := h
      have hU := V.evw hf hu
      have hW := V.evw hf hv
      have ha' : args = #[x, y] := by rw [← Array.toArray_toList (xs := args), ha]
      split at h
      · simp only [Option.some.injEq] at h; subst h
        rename_i k p k' q
        have e1 := V.int_inv hU
        have e2 := V.int_inv hW
        exact ⟨.int k (if q < p then q else p), by simp [execOp, hop, ha', resolve, invoke, builtin, Builtin.min_, Builtin.min2, e1, e2], .int⟩
      · cases h
    · rename_i x y ha
      simp only [Option.bind_eq_bind, Option.bind_eq_some_iff] at h
      obtain ⟨u, hu, v, hv, h⟩ := h
      have hU := V.evw hf hu
      have hW := V.evw hf hv
      have ha' : args = #[x, y] := by rw [← Array.toArray_toList (xs := args), ha]
      split at h
      · simp only [Option.some.injEq] at h; subst h
        rename_i k p k' q
        have e1 := V.int_inv hU
        have e2 := V.int_inv hW
        exact ⟨.int k (if p < q then q else p), by simp [execOp, hop, ha', resolve, invoke, builtin, Builtin.max_, Builtin.max2, e1, e2], .int⟩
      · cases h
    · cases h
  · cases h
end Go.Ai

/- States of the evaluator and of the model: how they go on. -/
namespace Go.Ai
open Go.RowKit

structure SR (X : Nat → Prop) (B : Nat) (w0 : World) (p : Id) (nt : Nat) (G : Ghost) (O : Own) (fr : Fr) (c : Nat) (h : Heap) (a : Act) (w : World) : Prop where
  fr : FR p nt G O w fr a.tmps
  r : R B w0 G O h w
  fresh : FreshX X G p c
  defers : a.defers = []

def Later (X : Nat → Prop) (B : Nat) (w0 : World) (p : Id) (nt c : Nat) (G : Ghost) (O : Own) (w : World) (fr' : Fr) (c' : Nat) (h' : Heap) (a' : Act) (w' : World) : Prop :=
  ∃ G' O', SR X B w0 p nt G' O' fr' c' h' a' w' ∧ Mv p c G O w c' G' O' w'

theorem FR.V {p : Id} {nt : Nat} {G : Ghost} {O : Own} {w : World} {fr : Fr} {tm : Array Value} (h : FR p nt G O w fr tm) : ∀ t, Ai.V G (fr t) (tm.getD t undef) := fun t => (h.val t).1

theorem Fr.put_eq (fr : Fr) (d : Option Nat) (v : A) (t : Nat) : (fr.put d v) t = if d = some t then v else fr t := by
  cases d with
  | none => simp [Fr.put]
  | some d => simp only [Fr.put, Fr.set, Option.some.injEq]; split <;> split <;> simp_all

theorem Act.put_getD (a : Act) (d : Option Nat) (z : Value) (t : Nat) (hd : ∀ x, d = some x → x < a.tmps.size) : (a.put d z).tmps.getD t undef = if d = some t then z else a.tmps.getD t undef := by
  cases d with
  | none => simp [Act.put]
  | some d =>
    have := hd d rfl
    simp only [Act.put, Option.some.injEq]
    by_cases h : d = t
    · subst h; simp [Array.getD_eq_getD_getElem?, this]
    · simp [h, Array.getD_eq_getD_getElem?, Array.getElem?_setIfInBounds_ne h]

theorem Act.put_size (a : Act) (d : Option Nat) (z : Value) : (a.put d z).tmps.size = a.tmps.size := by cases d <;> simp [Act.put]
theorem Act.put_defers' (a : Act) (d : Option Nat) (z : Value) : (a.put d z).defers = a.defers := by cases d <;> rfl

/-- a value laid in a slot -/
theorem FR.put {p : Id} {nt : Nat} {G : Ghost} {O : Own} {w : World} {fr : Fr} {a : Act} {d : Option Nat} {v : A} {z : Value} (h : FR p nt G O w fr a.tmps) (hd : ∀ x, d = some x → x < nt)
    (hv : Ai.V G v z) (hr : ∀ x, d = some x → Room O w (.tsp p x) v z) : FR p nt G O w (fr.put d v) (a.put d z).tmps :=
  ⟨by rw [Act.put_size]; exact h.size, fun t => by
    rw [Fr.put_eq, Act.put_getD _ _ _ _ (fun x hx => Nat.lt_of_lt_of_le (hd x hx) h.size)]
    by_cases e : d = some t
    · rw [if_pos e, if_pos e]; exact ⟨hv, hr t e⟩
    · rw [if_neg e, if_neg e]; exact h.val t⟩

/-- a slot without its right to grow -/
theorem FR.weaken {p : Id} {nt : Nat} {G : Ghost} {O : Own} {w : World} {fr : Fr} {tm : Array Value} (h : FR p nt G O w fr tm) (t : Nat) : FR p nt G O w (fr.set t (fr t).weak) tm :=
  ⟨h.size, fun s => by
    unfold Fr.set
    split
    · rename_i e; subst e; exact ⟨(h.val s).1.weak, Room.free (A.free_weak _)⟩
    · exact h.val s⟩

/-- the world goes on: what was there stays, new blocks come -/
structure Ext (w w' : World) : Prop where
  os : w'.os = w.os
  tape : w'.tape = w.tape
  output : w'.output = w.output
  size : w.heap.size ≤ w'.heap.size
  block : ∀ b, b < w.heap.size → w'.heap[b]? = w.heap[b]?

theorem Ext.cell {w w' : World} (h : Ext w w') {b o : Nat} (hb : b < w.heap.size) : w'.cell? ⟨b, o, none⟩ = w.cell? ⟨b, o, none⟩ := World.cell?_of_block (w := w) (h.block b hb)
theorem Ext.frozen {w w' : World} (h : Ext w w') {b o : Nat} (hb : b < w.heap.size) : w'.frozen? ⟨b, o, none⟩ = w.frozen? ⟨b, o, none⟩ := World.frozen?_of_block (w := w) (h.block b hb)
theorem Ext.alloc (w : World) (o : Obj) : Ext w (w.alloc o) := ⟨rfl, rfl, rfl, by simp, fun b hb => Below.heap_alloc w o b hb⟩
theorem Ext.drewAlloc (w : World) (o : Obj) : Ext w (w.drew.alloc o) := ⟨rfl, rfl, rfl, by simp, fun b hb => Below.heap_alloc w.drew o b hb⟩
theorem Ext.refl (w : World) : Ext w w := ⟨rfl, rfl, rfl, Nat.le_refl _, fun _ _ => rfl⟩
theorem Ext.below {B : Nat} {w0 w w' : World} (h : Ext w w') (hb : Below B w0 w) (hB : B ≤ w.heap.size) : Below B w0 w' :=
  ⟨h.os.trans hb.os, h.tape.trans hb.tape, h.output.trans hb.output, Nat.le_trans hb.size h.size, fun k hk => (h.block k (Nat.lt_of_lt_of_le hk hB)).trans (hb.block k hk)⟩

theorem Ext.shape {w w' : World} (h : Ext w w') {b : Nat} {x : TypeId × Nat} (hs : shp w b = some x) : shp w' b = some x := by
  have hb : b < w.heap.size := by
    rcases Nat.lt_or_ge b w.heap.size with hb | hb
    · exact hb
    · simp [shp, Array.getElem?_eq_none hb] at hs
  unfold shp at hs ⊢
  rw [h.block b hb]; exact hs

theorem shape_new (w : World) (vs : List Value) (e : TypeId) : shp (w.alloc (.cells vs.toArray e)) w.heap.size = some (e, vs.length) := by
  have h : (w.alloc (.cells vs.toArray e)).heap[w.heap.size]? = some (.cells vs.toArray e) := by
    show (w.heap.push _)[w.heap.size]? = _
    exact Array.getElem?_push_size
  unfold shp
  rw [h]
  simp

theorem shp_lt {w : World} {b : Nat} {x : TypeId × Nat} (hs : shp w b = some x) : b < w.heap.size := by
  rcases Nat.lt_or_ge b w.heap.size with hb | hb
  · exact hb
  · simp [shp, Array.getElem?_eq_none hb] at hs
theorem Room.ext {O O' : Own} {w w' : World} {L : Lab} {a : A} {v : Value} (h : Room O w L a v) (hx : Ext w w') (hO : ∀ b x, b < w.heap.size → O' b x = O b x) (hlt : ∀ b o l, O b o = some l → b < w.heap.size) : Room O' w' L a v := by
  intro xs s b o n cap e1 e2
  obtain ⟨⟨s1, s2⟩, hall⟩ := h xs s b o n cap e1 e2
  refine ⟨⟨s1, hx.shape s2.1, fun hs y => by rw [hx.frozen (shp_lt s2.1)]; exact s2.2 hs y⟩, fun x h1 => ?_⟩
  obtain ⟨g1, g2, g3⟩ := hall x h1
  have hb := hlt _ _ _ g1
  exact ⟨by rw [hO _ _ hb]; exact g1, by rw [hx.cell hb]; exact g2, by rw [hx.frozen hb]; exact g3⟩

theorem R.ext {B : Nat} {w0 : World} {G G' : Ghost} {O O' : Own} {h : Heap} {w w' : World} (hr : R B w0 G O h w) (hx : Ext w w') (hg : G.le G') (hO : ∀ b x, b < w.heap.size → O' b x = O b x)
    (hK : ∀ b o v, G'.K b o = some v → G.K b o = some v ∨ (O' b o = some .imm ∧ w'.cell? ⟨b, o, none⟩ = some v)) (hlt : ∀ b o l, O' b o = some l → b < w'.heap.size) : R B w0 G' O' h w' where
  below := hx.below hr.below hr.base
  base := Nat.le_trans hr.base hx.size
  imm b o v hk := by
    rcases hK b o v hk with hk | hk
    · obtain ⟨h1, h2⟩ := hr.imm b o v hk
      have hb := hr.lt _ _ _ h1
      exact ⟨by rw [hO _ _ hb]; exact h1, by rw [hx.cell hb]; exact h2⟩
    · exact hk
  obj id cs hid := by
    obtain ⟨b, o, hm, ho⟩ := hr.obj id cs hid
    refine ⟨b, o, hg.2 _ _ hm, fun j a hj => ?_⟩
    obtain ⟨h1, h2, v, h3, h4, h5, h6⟩ := ho j a hj
    have hb := hr.lt _ _ _ h1
    exact ⟨by rw [hO _ _ hb]; exact h1, by rw [hx.frozen hb]; exact h2, v, by rw [hx.cell hb]; exact h3, h4, h5.mono hg, h6.ext hx hO hr.lt⟩
  lt := hlt
  new b o l hl h1 h2 := by
    rcases Nat.lt_or_ge b w.heap.size with hb | hb
    · rw [hO _ _ hb] at hl; exact hr.new b o l hl h1 h2
    · exact Nat.le_trans hr.base hb
  bot := hg.2 _ _ hr.bot
  typ id cs b o hid hm := by
    obtain ⟨b', o', hm', _⟩ := hr.obj id cs hid
    have := hg.2 _ _ hm'
    rw [hm] at this; cases this
    obtain ⟨h1, t, h2, n, h3, h4⟩ := hr.typ id cs b o hid hm'
    exact ⟨h1, t, h2, n, hx.shape h3, h4⟩

theorem FR.ext {p : Id} {nt : Nat} {G G' : Ghost} {O O' : Own} {w w' : World} {fr : Fr} {tm : Array Value} (h : FR p nt G O w fr tm) (hx : Ext w w') (hg : G.le G') (hO : ∀ b x, b < w.heap.size → O' b x = O b x)
    (hlt : ∀ b o l, O b o = some l → b < w.heap.size) : FR p nt G' O' w' fr tm :=
  ⟨h.size, fun t => ⟨(h.val t).1.mono hg, (h.val t).2.ext hx hO hlt⟩⟩

theorem Keeps.ext {p : Id} {O O' : Own} {w w' : World} (hx : Ext w w') (hO : ∀ b x, b < w.heap.size → O' b x = O b x) (hlt : ∀ b o l, O b o = some l → b < w.heap.size) : Keeps p O w O' w' :=
  ⟨fun b o l hl _ => by have hb := hlt _ _ _ hl; exact ⟨by rw [hO _ _ hb]; exact hl, hx.cell hb, hx.frozen hb⟩, hx.size, fun _ _ => hx.shape, fun _ _ hs _ _ => hx.frozen (shp_lt hs)⟩

/-- labels of a new block laid over others -/
def newLab (O : Own) (b : Nat) (n : Nat) (l : Lab) : Own := fun b' x => if b' = b then (if x < n then some l else none) else O b' x

theorem newLab_old {O : Own} {b n : Nat} {l : Lab} {w : World} (hb : b = w.heap.size) : ∀ b' x, b' < w.heap.size → newLab O b n l b' x = O b' x := by
  intro b' x h; simp [newLab, show b' ≠ b by omega]
theorem newLab_lt {O : Own} {b n : Nat} {l : Lab} {w w' : World} (hb : b = w.heap.size) (hw : w.heap.size < w'.heap.size) (hlt : ∀ b o l, O b o = some l → b < w.heap.size) :
    ∀ b' o l', newLab O b n l b' o = some l' → b' < w'.heap.size := by
  intro b' o l' h
  simp only [newLab] at h
  split at h
  · omega
  · exact Nat.lt_trans (hlt _ _ _ h) hw

/-- rights to grow handed on -/
def relab (O : Own) (L L' : Lab) : Own := fun b x => if O b x = some L then some L' else O b x

theorem relab_other {O : Own} {L L' l : Lab} {b x : Nat} (h : O b x = some l) (hl : l ≠ L) : relab O L L' b x = some l := by
  simp only [relab]; rw [if_neg (by rw [h]; simpa using hl)]; exact h
theorem relab_moved {O : Own} {L L' : Lab} {b x : Nat} (h : O b x = some L) : relab O L L' b x = some L' := by simp [relab, h]

theorem Room.relab_other {O : Own} {w : World} {L L' l : Lab} {a : A} {v : Value} (h : Room O w l a v) (hl : l ≠ L) : Room (relab O L L') w l a v := by
  intro xs s b o n cap e1 e2
  obtain ⟨⟨s1, s2⟩, hall⟩ := h xs s b o n cap e1 e2
  refine ⟨⟨s1, s2⟩, fun x h1 => ?_⟩
  obtain ⟨g1, g2, g3⟩ := hall x h1
  exact ⟨Ai.relab_other g1 hl, g2, g3⟩
theorem Room.relab_moved {O : Own} {w : World} {L L' : Lab} {a : A} {v : Value} (h : Room O w L a v) : Room (relab O L L') w L' a v := by
  intro xs s b o n cap e1 e2
  obtain ⟨⟨s1, s2⟩, hall⟩ := h xs s b o n cap e1 e2
  refine ⟨⟨s1, s2⟩, fun x h1 => ?_⟩
  obtain ⟨g1, g2, g3⟩ := hall x h1
  exact ⟨Ai.relab_moved g1, g2, g3⟩

/-- what moves: a frame's slot's room, or a heap cell's -/
def Lab.moves (p : Id) : Lab → Prop
  | .tsp q _ => q = p
  | .hsp _ _ => True
  | _ => False

theorem Keeps.relab {p : Id} {O : Own} {w : World} {L L' : Lab} (hL : L.moves p) : Keeps p O w (relab O L L') w :=
  ⟨fun b o l hl hp => ⟨Ai.relab_other hl (by
    rintro rfl
    cases l with
    | tsp q t => simp only [Lab.moves] at hL; subst hL; exact hp (List.suffix_refl _)
    | hsp _ _ => exact hp
    | _ => exact hL), rfl, rfl⟩, Nat.le_refl _, fun _ _ h => h, fun _ _ _ _ _ => rfl⟩

theorem R.relab {B : Nat} {w0 : World} {G : Ghost} {O : Own} {h : Heap} {w : World} {L L' : Lab} {p : Id} (hr : R B w0 G O h w) (hL : L.moves p)
    (hh : ∀ id j cs a, L = .hsp id j → h id = some cs → cs[j]? = some a → a.free) : R B w0 G (relab O L L') h w where
  below := hr.below
  base := hr.base
  imm b o v hk := by
    obtain ⟨h1, h2⟩ := hr.imm b o v hk
    exact ⟨relab_other h1 (by rintro rfl; exact hL), h2⟩
  obj id cs hid := by
    obtain ⟨b, o, hm, ho⟩ := hr.obj id cs hid
    refine ⟨b, o, hm, fun j a hj => ?_⟩
    obtain ⟨h1, h2, v, h3, h4, h5, h6⟩ := ho j a hj
    refine ⟨relab_other h1 (by rintro rfl; exact hL), h2, v, h3, h4, h5, ?_⟩
    by_cases e : Lab.hsp id j = L
    · exact Room.free (hh id j cs a e.symm hid hj)
    · exact h6.relab_other e
  lt b o l hl := by
    simp only [Ai.relab] at hl
    split at hl
    · rename_i e; exact hr.lt _ _ _ e
    · exact hr.lt _ _ _ hl
  new b o l hl h1 h2 := by
    simp only [Ai.relab] at hl
    split at hl
    · rename_i e
      exact hr.new _ _ _ e (by rintro rfl; exact hL) (by rintro rfl; exact hL)
    · exact hr.new b o l hl h1 h2
  bot := hr.bot
  typ := hr.typ

theorem Mv.same {p : Id} {c : Nat} {G : Ghost} {O O' : Own} {w : World} (h : Keeps p O w O' w) : Mv p c G O w c G O' w := ⟨G.le_refl, h, Nat.le_refl _, fun _ _ => rfl⟩
end Go.Ai

/- The evaluator's operations on memory are the model's. -/
namespace Go.Ai
open Go.RowKit

section
variable {P : Program} {o : Oper} {a : Act} {w w' : World} {K : Act → World → Prop} {Q : Exit → Act → World → Prop}
theorem wp_value {z : Value} (h : (execOp a.eval o).run P w = .ok (.value z) w') (hk : K (a.put o.dst z) w') : o.wp P a w K Q := by
  unfold Oper.wp; rw [h]; exact hk
theorem wp_skip' (h : (execOp a.eval o).run P w = .ok .skip w') (hk : K (a.put o.dst undef) w') : o.wp P a w K Q := by
  unfold Oper.wp; rw [h]; exact hk
end

theorem FR.take {p : Id} {nt : Nat} {G : Ghost} {O : Own} {w : World} {fr fr1 : Fr} {a : Act} {x : Operand} {v : A} (hf : FR p nt G O w fr a.tmps) (h : takeA fr x = some (v, fr1)) (L' : Lab) :
    Ai.V G v (a.eval x) ∧ ∃ O', (O' = O ∨ ∃ t, O' = relab O (.tsp p t) L') ∧ FR p nt G O' w fr1 a.tmps ∧ Room O' w L' v (a.eval x) := by
  have other : ∀ y, (∀ t, y ≠ .tmp t) → (ev fr y).map (·, fr) = some (v, fr1) → Ai.V G v (a.eval y) ∧ fr1 = fr ∧ v.free := by
    intro y hy h
    simp only [Option.map_eq_some_iff, Prod.mk.injEq] at h
    obtain ⟨u, hu, rfl, rfl⟩ := h
    refine ⟨Ai.V.ev hf.V hu, rfl, ?_⟩
    cases y with
    | tmp t => exact absurd rfl (hy t)
    | const c =>
      intro xs s e
      simp only [ev] at hu
      unfold ofConst at hu
      split at hu <;> simp at hu <;> subst hu <;> cases e
    | func f => simp [ev] at hu; subst hu; intro xs s e; cases e
    | global g => simp [ev] at hu
  cases x with
  | tmp t =>
    simp only [takeA, Option.some.injEq, Prod.mk.injEq] at h
    obtain ⟨rfl, rfl⟩ := h
    have := hf.val t
    refine ⟨this.1, relab O (.tsp p t) L', .inr ⟨t, rfl⟩, ⟨hf.size, fun s => ?_⟩, this.2.relab_moved⟩
    unfold Fr.set
    split
    · rename_i e; subst e; exact ⟨(hf.val s).1.weak, Room.free (A.free_weak _)⟩
    · rename_i e
      exact ⟨(hf.val s).1, (hf.val s).2.relab_other (by simp [e])⟩
  | const c =>
    obtain ⟨h1, rfl, h3⟩ := other (.const c) (by simp) h
    exact ⟨h1, O, .inl rfl, hf, Room.free h3⟩
  | func f =>
    obtain ⟨h1, rfl, h3⟩ := other (.func f) (by simp) h
    exact ⟨h1, O, .inl rfl, hf, Room.free h3⟩
  | global g =>
    obtain ⟨h1, rfl, h3⟩ := other (.global g) (by simp) h
    exact ⟨h1, O, .inl rfl, hf, Room.free h3⟩

section
variable {X : Nat → Prop} {B : Nat} {w0 : World} {p : Id} {nt : Nat} {G : Ghost} {O O' : Own} {fr fr1 : Fr} {c : Nat} {h : Heap} {a : Act} {w : World}

theorem Keeps.take {L' : Lab} (ho : O' = O ∨ ∃ t, O' = Ai.relab O (.tsp p t) L') : Keeps p O w O' w := by
  rcases ho with rfl | ⟨t, rfl⟩
  · exact .refl _ _ _
  · exact .relab rfl
theorem R.take {L' : Lab} (hr : R B w0 G O h w) (ho : O' = O ∨ ∃ t, O' = Ai.relab O (.tsp p t) L') : R B w0 G O' h w := by
  rcases ho with rfl | ⟨t, rfl⟩
  · exact hr
  · exact hr.relab (p := p) rfl (by intro id j cs a e; cases e)

/-- what an operation without a store leaves -/
theorem SR.value (hs : SR X B w0 p nt G O fr c h a w) {d : Option Nat} (hd : ∀ x, d = some x → x < nt) {v : A} {z : Value} (hv : V G v z) (hr : v.free) :
    Later X B w0 p nt c G O w (fr.put d v) c h (a.put d z) w :=
  ⟨G, O, ⟨hs.fr.put hd hv (fun _ _ => Room.free hr), hs.r, hs.fresh, by rw [Act.put_defers']; exact hs.defers⟩, .refl _ _ _ _ _⟩

/-- a value that keeps its right to grow -/
theorem SR.taken (hs : SR X B w0 p nt G O fr c h a w) {x : Operand} {v : A} (ht : takeA fr x = some (v, fr1)) {d : Option Nat} (hd : ∀ x, d = some x → x < nt) :
    Later X B w0 p nt c G O w (fr1.put d v) c h (a.put d (a.eval x)) w := by
  cases d with
  | none =>
    obtain ⟨hv, O', ho, hf, hroom⟩ := hs.fr.take ht (.tsp p 0)
    exact ⟨G, O', ⟨hf.put (by simp) hv (by simp), hs.r.take ho, hs.fresh, by rw [Act.put_defers']; exact hs.defers⟩, .same (.take ho)⟩
  | some d =>
    obtain ⟨hv, O', ho, hf, hroom⟩ := hs.fr.take ht (.tsp p d)
    exact ⟨G, O', ⟨hf.put hd hv (by rintro x e; cases e; exact hroom), hs.r.take ho, hs.fresh, by rw [Act.put_defers']; exact hs.defers⟩, .same (.take ho)⟩

/-- a new object -/
theorem SR.objectV (hs : SR X B w0 p nt G O fr c h a w) {d : Option Nat} (hd : ∀ x, d = some x → x < nt) {cs : List A} {vs : List Value} {e : TypeId} (hv : VF G cs vs) (h1 : ∀ v ∈ vs, v.oneCell' = true)
    (hfree : ∀ (j : Nat) (x : A), cs[j]? = some x → x.free) {w' : World} (hw : w' = w.alloc (.cells vs.toArray e)) {u : A} {z : Value} (hu : ∀ G' : Ghost, G'.m (e :: c :: p) = some (w.heap.size, 0) → V G' u z) (huf : u.free) (hX : ¬ X c) :
    Later X B w0 p nt c G O w (fr.put d u) (c + 1) (upd h (e :: c :: p) cs) (a.put d z) w' := by
  subst hw
  have hx : Ext w (w.alloc (.cells vs.toArray e)) := Ext.alloc w _
  have hm0 : G.m (e :: c :: p) = none := hs.fresh _ (underB_of_suffix (Nat.le_refl c) (List.suffix_cons _ _)) (fun k hk hs => hX (by rw [← cons_suffix_inj hs (List.suffix_cons _ _)]; exact hk))
  let G' : Ghost := ⟨G.K, fun i => if i = e :: c :: p then some (w.heap.size, 0) else G.m i⟩
  have hg : G.le G' := ⟨fun _ _ _ h => h, fun i x hi => by
    show (if i = e :: c :: p then _ else _) = _
    rw [if_neg (by rintro rfl; rw [hm0] at hi; cases hi)]; exact hi⟩
  have hO := newLab_old (O := O) (b := w.heap.size) (n := vs.length) (l := .obj (e :: c :: p)) (w := w) rfl
  have hR : R B w0 G' (newLab O w.heap.size vs.length (.obj (e :: c :: p))) h (w.alloc (.cells vs.toArray e)) :=
    hs.r.ext hx hg hO (fun b o v hk => .inl hk) (newLab_lt rfl (by simp) hs.r.lt)
  refine ⟨G', newLab O w.heap.size vs.length (.obj (e :: c :: p)), ⟨?_, ?_, ?_, ?_⟩, ⟨hg, .ext hx hO hs.r.lt, by omega, ?_⟩⟩
  · refine FR.put (hs.fr.ext hx hg hO hs.r.lt) hd (hu G' (by simp [G'])) (fun _ _ => Room.free huf)
  · refine ⟨hR.below, hR.base, hR.imm, ?_, hR.lt, hR.new, hR.bot, ?_⟩
    rotate_left
    · intro id cs' b o hid hm
      simp only [upd] at hid
      split at hid
      · rename_i e1; subst e1
        simp only [Option.some.injEq] at hid; subst hid
        simp [G'] at hm
        obtain ⟨rfl, rfl⟩ := hm
        exact ⟨rfl, e, rfl, _, by rw [shape_new, hv.length], fun h => h⟩
      · exact hR.typ id cs' b o hid hm
    intro id cs' hid
    simp only [upd] at hid
    split at hid
    · rename_i e; subst e
      simp only [Option.some.injEq] at hid; subst hid
      refine ⟨w.heap.size, 0, by simp [G'], fun j x hj => ?_⟩
      obtain ⟨v, hv1, hv2⟩ := hv.get j x hj
      have hjl : j < vs.length := by
        rcases Nat.lt_or_ge j vs.length with h | h
        · exact h
        · rw [List.getElem?_eq_none h] at hv1; cases hv1
      refine ⟨by simp [newLab, hjl], ?_, v, ?_, h1 v (List.mem_of_getElem? hv1), hv2.mono hg, Room.free (hfree j x hj)⟩
      · simp
      · simp [hv1]
    · exact hR.obj id cs' hid
  · intro i hi hXi
    show (if i = e :: c :: p then _ else _) = _
    rw [if_neg (by rintro rfl; obtain ⟨k, hk, hsuf⟩ := underB_suffix hi; have := cons_suffix_inj hsuf (List.suffix_cons _ _); omega)]
    exact hs.fresh i (underB_mono (Nat.le_succ c) hi) hXi
  · rw [Act.put_defers']; exact hs.defers
  · intro i hi
    show (if i = e :: c :: p then _ else _) = _
    rw [if_neg (by rintro rfl; exact hi c (Nat.le_refl _) (Nat.lt_succ_self _) (List.suffix_cons _ _))]

theorem SR.object (hs : SR X B w0 p nt G O fr c h a w) {d : Option Nat} (hd : ∀ x, d = some x → x < nt) {cs : List A} {vs : List Value} {e : TypeId} (hv : VF G cs vs) (h1 : ∀ v ∈ vs, v.oneCell' = true)
    (hfree : ∀ (j : Nat) (x : A), cs[j]? = some x → x.free) {w' : World} (hw : w' = w.alloc (.cells vs.toArray e)) (hX : ¬ X c) :
    Later X B w0 p nt c G O w (fr.put d (.ptr (e :: c :: p) 0)) (c + 1) (upd h (e :: c :: p) cs) (a.put d (.pointer (some ⟨w.heap.size, 0, none⟩))) w' :=
  hs.objectV hd hv h1 hfree hw (fun _ hm => .ptr (o := 0) hm) (by intro xs s e; cases e) hX
end
end Go.Ai

/- The evaluator's operations on memory are the model's: stores, loads, new slices. -/
namespace Go.Ai
open Go.RowKit

theorem loadVar_ok {P : Program} {w : World} {t n b o : Nat} {g : Bool} {vs : List Value} (hs : shapeT P t = some (n, g)) (hl : g = true → vs.length = n) (hl' : g = false → vs.length = 1)
    (hc : ∀ j v, vs[j]? = some v → w.cell? ⟨b, o + j, none⟩ = some v) : ∃ z, (loadVar t ⟨b, o, none⟩).run P w = .ok z w ∧ (g = true → z = .agg ⟨vs⟩) ∧ (g = false → vs = [z]) := by
  obtain ⟨i, d, hi, hd, rfl, hg⟩ := shapeT_ok hs
  cases g with
  | true =>
    have h1 := run_loadCells_list (P := P) w ⟨b, o, none⟩ vs (fun j v hj => by rw [Addr.add_lit]; exact hc j v hj)
    rw [hl rfl] at h1
    exact ⟨.agg ⟨vs⟩, by simp [loadVar, hg, run_sizeOf' hi, h1], fun _ => rfl, by simp⟩
  | false =>
    obtain ⟨v, rfl⟩ := List.length_eq_one_iff.1 (hl' rfl)
    have := hc 0 v (by simp)
    exact ⟨v, by simp [loadVar, hg] at this ⊢; simp [this], by simp, fun _ => rfl⟩

/-- values behind cells: of an object, of memory that nobody writes -/
theorem objVals {G : Ghost} {O : Own} {w : World} {id : Id} {b o : Nat} : ∀ {cs : List A}, ObjAt G O w id b o cs → ∀ off, ∃ vs, VF G (cs.drop off) vs ∧ (∀ v ∈ vs, v.oneCell' = true) ∧ ∀ j v, vs[j]? = some v → w.cell? ⟨b, o + off + j, none⟩ = some v := by
  intro cs ho off
  have key : ∀ (ds : List A) (k : Nat), (∀ (j : Nat) (a : A), ds[j]? = some a → cs[k + j]? = some a) → ∃ vs, VF G ds vs ∧ (∀ v ∈ vs, v.oneCell' = true) ∧ ∀ j v, vs[j]? = some v → w.cell? ⟨b, o + k + j, none⟩ = some v := by
    intro ds
    induction ds with
    | nil => intro k _; exact ⟨[], .nil, by simp, by simp⟩
    | cons d ds ih =>
      intro k hk
      obtain ⟨vs, h1, h2, h3⟩ := ih (k + 1) (fun j a hj => by rw [show k + 1 + j = k + (j + 1) by omega]; exact hk (j + 1) a (by simpa using hj))
      obtain ⟨_, _, v, g3, g4, g5, _⟩ := ho k d (by simpa using hk 0 d (by simp))
      refine ⟨v :: vs, .cons g5 h1, ?_, ?_⟩
      · intro u hu; rcases List.mem_cons.1 hu with rfl | hu; exact g4; exact h2 u hu
      · intro j u hj
        cases j with
        | zero => simp at hj; subst hj; simpa using g3
        | succ j => simp at hj; have := h3 j u hj; rwa [show o + (k + 1) + j = o + k + (j + 1) by omega] at this
  exact key _ off (fun j a hj => by rwa [List.getElem?_drop] at hj)

theorem pick_load {P : Program} {w : World} {G : Ghost} {t n off b o : Nat} {g : Bool} {cs : List A} {r : A} {vs : List Value} (hs : shapeT P t = some (n, g)) (h : pickCells g cs off n = some r)
    (h1 : VF G (cs.drop off) vs) (h2 : ∀ v ∈ vs, v.oneCell' = true) (h3 : ∀ j v, vs[j]? = some v → w.cell? ⟨b, o + off + j, none⟩ = some v) :
    ∃ z, (loadVar t ⟨b, o + off, none⟩).run P w = .ok z w ∧ V G r z := by
  have hlen := h1.length
  unfold pickCells at h
  cases g with
  | true =>
    simp only [if_true] at h
    split at h
    · rename_i hl
      simp only [Option.some.injEq] at h; subst h
      have hn : (vs.take n).length = n := by simp at hlen ⊢; omega
      obtain ⟨z, e1, e2, _⟩ := loadVar_ok (P := P) (w := w) (b := b) (o := o + off) (vs := vs.take n) hs (fun _ => hn) (by simp) (fun j v hj => h3 j v (by
        rw [List.getElem?_take] at hj; split at hj <;> first | exact hj | cases hj))
      refine ⟨z, e1, ?_⟩
      rw [e2 rfl]
      exact .agg (h1.take n).noOwn1 (fun v hv => h2 v (List.mem_of_mem_take hv))
    · cases h
  | false =>
    simp only [Bool.false_eq_true, if_false, Option.map_eq_some_iff] at h
    obtain ⟨u, hu, rfl⟩ := h
    obtain ⟨v, hv1, hv2⟩ := h1.get 0 u (by rw [List.getElem?_drop]; simpa using hu)
    have hv1' : vs.take 1 = [v] := by cases vs with | nil => simp at hv1 | cons x xs => simp at hv1; simp [hv1]
    obtain ⟨z, e1, _, e3⟩ := loadVar_ok (P := P) (w := w) (b := b) (o := o + off) (vs := [v]) hs (by simp) (by simp) (fun j x hj => h3 j x (by
      cases j with
      | zero => simp at hj; subst hj; exact hv1
      | succ j => simp at hj))
    have e := e3 rfl
    simp at e; subst e
    exact ⟨v, e1, hv2.noOwn1⟩

theorem loadA_ok {P : Program} {B : Nat} {w0 w : World} {G : Ghost} {O : Own} {h : Heap} {t : Nat} {x r : A} {v : Value} (hr : R B w0 G O h w) (hl : loadA P t x h = some r) (hv : V G x v) :
    ∃ z, (Instr.loadAt t v).run P w = .ok z w ∧ V G r z := by
  simp only [loadA, Option.bind_eq_some_iff] at hl
  obtain ⟨⟨n, g⟩, hs, hl⟩ := hl
  split at hl
  · rename_i id off
    simp only [Option.bind_eq_some_iff] at hl
    obtain ⟨cs, hcs, hp⟩ := hl
    obtain ⟨b, o, hm, ho⟩ := hr.obj id cs hcs
    cases hv with
    | ptr e =>
      rw [hm] at e; cases e
      obtain ⟨vs, h1, h2, h3⟩ := objVals ho off
      obtain ⟨z, e1, e2⟩ := pick_load hs hp h1 h2 h3
      exact ⟨z, by simp [Instr.loadAt, Instr.sureAddr, e1], e2⟩
  · rename_i cs off
    cases hv with
    | ref e =>
      rename_i b o
      obtain ⟨vs, h1, h2, h3⟩ := (e.drop off).vals
      obtain ⟨z, e1, e2⟩ := pick_load hs hl h1 h2 (fun j v hj => (hr.imm _ _ _ (h3 j v hj)).2)
      exact ⟨z, by simp [Instr.loadAt, Instr.sureAddr, e1], e2⟩
  · cases hl

section
variable {X : Nat → Prop} {B : Nat} {w0 : World} {p : Id} {nt : Nat} {G : Ghost} {O : Own} {fr fr1 : Fr} {c : Nat} {h : Heap} {a : Act} {w : World}

/-- the heap with one cell's right to grow taken, and the slot that got it -/
theorem SR.feed (hs : SR X B w0 p nt G O fr c h a w) {P : Program} {t : Nat} {id : Id} {off : Nat} {cs : List A} {v : A} {x : Value} {n : Nat} (hsh : shapeT P t = some (n, false)) (hid : h id = some cs) (hc : cs[off]? = some v)
    (hx : V G (.ptr id off) x) {d : Option Nat} (hd : ∀ x, d = some x → x < nt) :
    ∃ z, (Instr.loadAt t x).run P w = .ok z w ∧ Later X B w0 p nt c G O w (fr.put d v) c (upd h id (cs.set off v.weak1)) (a.put d z) w := by
  obtain ⟨b, o, hm, ho⟩ := hs.r.obj id cs hid
  obtain ⟨g1, g2, z, g3, g4, g5, g6⟩ := ho off v hc
  cases hx with
  | ptr e =>
    rw [hm] at e; cases e
    obtain ⟨z', e1, _, e3⟩ := loadVar_ok (P := P) (w := w) (b := b) (o := o + off) (vs := [z]) hsh (by simp) (by simp) (fun j u hj => by
      cases j with
      | zero => simp at hj; subst hj; exact g3
      | succ j => simp at hj)
    have e := e3 rfl
    simp at e; subst e
    refine ⟨z, by simp [Instr.loadAt, Instr.sureAddr, e1], ?_⟩
    -- the heap without that right
    have hw : R B w0 G O (upd h id (cs.set off v.weak1)) w := by
      refine ⟨hs.r.below, hs.r.base, hs.r.imm, ?_, hs.r.lt, hs.r.new, hs.r.bot, ?_⟩
      rotate_left
      · intro id' cs' b' o' hid' hm'
        simp only [upd] at hid'
        split at hid'
        · rename_i e; subst e
          simp only [Option.some.injEq] at hid'; subst hid'
          have := hs.r.typ _ _ _ _ hid hm'
          simpa using this
        · exact hs.r.typ _ _ _ _ hid' hm'
      intro id' cs' hid'
      simp only [upd] at hid'
      split at hid'
      · rename_i e; subst e
        simp only [Option.some.injEq] at hid'; subst hid'
        refine ⟨b, o, hm, fun j u hj => ?_⟩
        by_cases ej : j = off
        · subst ej
          have hlt : j < cs.length := by
            rcases Nat.lt_or_ge j cs.length with h | h
            · exact h
            · rw [List.getElem?_eq_none h] at hc; cases hc
          rw [List.getElem?_set_self hlt] at hj
          simp only [Option.some.injEq] at hj; subst hj
          exact ⟨g1, g2, z, g3, g4, g5.weak1, Room.free (A.free_weak1 v)⟩
        · rw [List.getElem?_set_ne (by omega)] at hj
          exact ho j u hj
      · exact hs.r.obj id' cs' hid'
    cases d with
    | none => exact ⟨G, O, ⟨hs.fr.put (by simp) g5 (by simp), hw, hs.fresh, by rw [Act.put_defers']; exact hs.defers⟩, .refl _ _ _ _ _⟩
    | some d =>
      refine ⟨G, relab O (.hsp id off) (.tsp p d), ⟨?_, ?_, hs.fresh, by rw [Act.put_defers']; exact hs.defers⟩, .same (.relab trivial)⟩
      · refine FR.put ⟨hs.fr.size, fun s => ⟨(hs.fr.val s).1, (hs.fr.val s).2.relab_other (by simp)⟩⟩ hd g5 ?_
        rintro y e; cases e
        exact g6.relab_moved
      · refine hw.relab (p := p) trivial ?_
        rintro id' j cs' u e hcs' hu
        cases e
        simp only [upd, if_true, Option.some.injEq] at hcs'
        subst hcs'
        have hlt : off < cs.length := by
          rcases Nat.lt_or_ge off cs.length with h | h
          · exact h
          · rw [List.getElem?_eq_none h] at hc; cases hc
        rw [List.getElem?_set_self hlt] at hu
        simp only [Option.some.injEq] at hu; subst hu
        exact A.free_weak1 v
end
end Go.Ai

/- The evaluator's operations on memory are the model's: stores. -/
namespace Go.Ai
open Go.RowKit

/-- cells set that all bear labels of one kind: what bears another stays -/
theorem setCells_out {O : Own} {w : World} {b o : Nat} {vs : List Value} {S : Lab → Prop} (hl : ∀ j, j < vs.length → ∃ l, O b (o + j) = some l ∧ S l) {b' x : Nat} {l : Lab} (h : O b' x = some l) (hn : ¬ S l) :
    (w.setCells b o vs).cell? ⟨b', x, none⟩ = w.cell? ⟨b', x, none⟩ := by
  refine World.cell?_setCells_out b vs o w _ ?_
  intro h1 _
  simp only at h1 ⊢
  subst h1
  rcases Nat.lt_or_ge x o with hx | hx
  · exact .inl hx
  · right
    rcases Nat.lt_or_ge x (o + vs.length) with hy | hy
    · obtain ⟨l', h2, h3⟩ := hl (x - o) (by omega)
      rw [show o + (x - o) = x by omega, h] at h2
      cases h2
      exact absurd h3 hn
    · exact hy

theorem shape_setCell (w : World) (a : Addr) (v : Value) (k : Nat) : shp (w.setCell a v) k = shp w k := by
  simp only [shp, World.setCell, Array.getElem?_modify]
  by_cases he : a.block = k
  · rw [if_pos he]
    cases w.heap[k]? with
    | none => rfl
    | some o =>
      cases o with
      | cells c e fz => simp only [Option.map_some]; cases a.spot <;> simp
      | _ => rfl
  · rw [if_neg he]
theorem shape_setCells (b : Nat) : ∀ (vs : List Value) (o : Nat) (w : World) (k : Nat), shp (w.setCells b o vs) k = shp w k
  | [], _, _, _ => rfl
  | v :: vs, o, w, k => by rw [World.setCells, shape_setCells b vs (o + 1) _ k, shape_setCell]
theorem size_setCells (b : Nat) : ∀ (vs : List Value) (o : Nat) (w : World), (w.setCells b o vs).heap.size = w.heap.size
  | [], _, _ => rfl
  | v :: vs, o, w => by rw [World.setCells, size_setCells b vs, World.size_setCell]
theorem os_setCells (b : Nat) : ∀ (vs : List Value) (o : Nat) (w : World), (w.setCells b o vs).os = w.os ∧ (w.setCells b o vs).tape = w.tape ∧ (w.setCells b o vs).output = w.output
  | [], _, _ => ⟨rfl, rfl, rfl⟩
  | v :: vs, o, w => by rw [World.setCells]; exact os_setCells b vs (o + 1) _
theorem block_setCells (b : Nat) : ∀ (vs : List Value) (o : Nat) (w : World) (k : Nat), k ≠ b → (w.setCells b o vs).heap[k]? = w.heap[k]?
  | [], _, _, _, _ => rfl
  | v :: vs, o, w, k, h => by
    rw [World.setCells, block_setCells b vs (o + 1) _ k h]
    exact Below.heap_setCell w _ v k h

theorem below_setCells {B : Nat} {w0 w : World} (h : Below B w0 w) {b : Nat} (hb : B ≤ b) (vs : List Value) (o : Nat) : Below B w0 (w.setCells b o vs) := by
  obtain ⟨h1, h2, h3⟩ := os_setCells b vs o w
  exact ⟨h1.trans h.os, h2.trans h.tape, h3.trans h.output, by rw [size_setCells]; exact h.size, fun k hk => by rw [block_setCells b vs o w k (by omega)]; exact h.block k hk⟩

theorem Room.write {O : Own} {w : World} {L : Lab} {a : A} {v : Value} {b o : Nat} {vs : List Value} {S : Lab → Prop} (h : Room O w L a v) (hl : ∀ j, j < vs.length → ∃ l, O b (o + j) = some l ∧ S l) (hn : ¬ S L) :
    Room O (w.setCells b o vs) L a v := by
  intro xs s b' o' n cap e1 e2
  obtain ⟨⟨s1, s2⟩, hall⟩ := h xs s b' o' n cap e1 e2
  refine ⟨⟨s1, by rw [shape_setCells]; exact s2.1, fun hs y => by rw [World.frozen?_setCells]; exact s2.2 hs y⟩, fun x h1 => ?_⟩
  obtain ⟨g1, g2, g3⟩ := hall x h1
  exact ⟨g1, by rw [setCells_out hl g1 hn]; exact g2, by rw [World.frozen?_setCells]; exact g3⟩

theorem FR.write {p : Id} {nt : Nat} {G : Ghost} {O : Own} {w : World} {fr : Fr} {tm : Array Value} {b o : Nat} {vs : List Value} {S : Lab → Prop} (h : FR p nt G O w fr tm) (hl : ∀ j, j < vs.length → ∃ l, O b (o + j) = some l ∧ S l) (hn : ∀ t, ¬ S (.tsp p t)) :
    FR p nt G O (w.setCells b o vs) fr tm := ⟨h.size, fun t => ⟨(h.val t).1, (h.val t).2.write hl (hn t)⟩⟩

theorem Keeps.write {p : Id} {O : Own} {w : World} {b o : Nat} {vs : List Value} {S : Lab → Prop} (hl : ∀ j, j < vs.length → ∃ l, O b (o + j) = some l ∧ S l) (hn : ∀ l, Prot p l → ¬ S l) : Keeps p O w O (w.setCells b o vs) :=
  ⟨fun b' x l h hp => ⟨h, setCells_out hl h (hn l hp), World.frozen?_setCells ..⟩, by rw [size_setCells]; exact Nat.le_refl _, fun _ _ h => by rw [shape_setCells]; exact h, fun _ _ _ _ _ => World.frozen?_setCells ..⟩

section
variable {X : Nat → Prop} {B : Nat} {w0 : World} {p : Id} {nt : Nat} {G : Ghost} {O : Own} {fr fr1 : Fr} {c : Nat} {h : Heap} {a : Act} {w : World}

/-- a store into an object -/
theorem R.write {O : Own} (hr : R B w0 G O h w) {id : Id} {cs cs' vs : List A} {us : List Value} {b o off : Nat} (hm : G.m id = some (b, o)) (hid : h id = some cs) (hs : splice cs off vs = some cs')
    (hv : VF G vs us) (h1 : ∀ u ∈ us, u.oneCell' = true) (hroom : ∀ (j : Nat) (x : A) (u : Value), vs[j]? = some x → us[j]? = some u → Room O w (.hsp id (off + j)) x u) :
    R B w0 G O (upd h id cs') (w.setCells b (o + off) us) ∧ (∀ j, j < us.length → ∃ l, O b (o + off + j) = some l ∧ l = .obj id) ∧
      (∀ j, j < us.length → (w.cell? ⟨b, o + off + j, none⟩).isSome = true) ∧ (∀ j, j < us.length → w.frozen? ⟨b, o + off + j, none⟩ = false) := by
  obtain ⟨b', o', hm', ho⟩ := hr.obj id cs hid
  rw [hm] at hm'; cases hm'
  have hlen := hv.length
  unfold splice at hs
  split at hs
  · rename_i hfit
    simp only [Option.some.injEq] at hs
    have hat : ∀ j, j < us.length → ∃ x, cs[off + j]? = some x := fun j hj => ⟨_, List.getElem?_eq_getElem (by omega)⟩
    have hl : ∀ j, j < us.length → ∃ l, O b (o + off + j) = some l ∧ l = .obj id := fun j hj => by
      obtain ⟨x, hx⟩ := hat j hj
      have := (ho (off + j) x hx).1
      exact ⟨_, by rw [Nat.add_assoc]; exact this, rfl⟩
    have hc : ∀ j, j < us.length → (w.cell? ⟨b, o + off + j, none⟩).isSome = true := fun j hj => by
      obtain ⟨x, hx⟩ := hat j hj
      obtain ⟨_, _, v, h3, _⟩ := ho (off + j) x hx
      rw [Nat.add_assoc, h3]; rfl
    have hf : ∀ j, j < us.length → w.frozen? ⟨b, o + off + j, none⟩ = false := fun j hj => by
      obtain ⟨x, hx⟩ := hat j hj
      rw [Nat.add_assoc]; exact (ho (off + j) x hx).2.1
    refine ⟨?_, hl, hc, hf⟩
    have hbel : Below B w0 (w.setCells b (o + off) us) := by
      cases us with
      | nil => exact hr.below
      | cons u us =>
        obtain ⟨l, h2, h3⟩ := hl 0 (by simp)
        exact below_setCells hr.below (hr.new _ _ _ h2 (by simp [h3]) (by simp [h3])) _ _
    refine ⟨hbel, by rw [size_setCells]; exact hr.base, ?_, ?_, by rw [size_setCells]; exact hr.lt, hr.new, hr.bot, ?_⟩
    rotate_right
    · intro id' cs2 b2 o2 hid' hm2
      simp only [shape_setCells]
      simp only [upd] at hid'
      split at hid'
      · rename_i e; subst e
        simp only [Option.some.injEq] at hid'; subst hid'
        have := hr.typ _ _ _ _ hid hm2
        subst hs
        simpa [show min off cs.length = off by omega, show off + (vs.length + (cs.length - (off + vs.length))) = cs.length by omega] using this
      · exact hr.typ _ _ _ _ hid' hm2
    · intro b' x v hk
      obtain ⟨h2, h3⟩ := hr.imm b' x v hk
      exact ⟨h2, by rw [setCells_out hl h2 (by simp)]; exact h3⟩
    · intro id' cs2 hid'
      simp only [upd] at hid'
      split at hid'
      · rename_i e; subst e
        simp only [Option.some.injEq] at hid'; subst hid'
        refine ⟨b, o, hm, fun j x hj => ?_⟩
        subst hs
        by_cases hin : off ≤ j ∧ j < off + vs.length
        · have hj' : vs[j - off]? = some x := by
            rw [List.getElem?_append_left (by simp; omega), List.getElem?_append_right (by simp; omega)] at hj
            rw [List.length_take, Nat.min_eq_left (by omega)] at hj
            exact hj
          obtain ⟨u, hu, hV⟩ := hv.get _ _ hj'
          have hju : j - off < us.length := by omega
          obtain ⟨y, hy⟩ := hat (j - off) hju
          rw [show off + (j - off) = j by omega] at hy
          obtain ⟨g1, g2, _⟩ := ho j y hy
          refine ⟨g1, by rw [World.frozen?_setCells]; exact g2, u, ?_, h1 u (List.mem_of_getElem? hu), hV, ?_⟩
          · have := World.cell?_setCells_in b us (o + off) w hc (j - off) hju
            rw [show o + off + (j - off) = o + j by omega] at this
            rw [this, List.getElem?_eq_getElem hju] at *
            exact hu
          · have := (hroom (j - off) x u hj' hu).write hl (by simp)
            rwa [show off + (j - off) = j by omega] at this
        · have hj' : cs[j]? = some x := by
            rcases Nat.lt_or_ge j off with hlt | hge
            · rw [List.getElem?_append_left (by simp; omega), List.getElem?_append_left (by simp; omega), List.getElem?_take, if_pos hlt] at hj
              exact hj
            · rw [List.getElem?_append_right (by simp; omega), List.getElem?_drop] at hj
              simp only [List.length_append, List.length_take, Nat.min_eq_left (show off ≤ cs.length by omega)] at hj
              rwa [show off + vs.length + (j - (off + vs.length)) = j by omega] at hj
          obtain ⟨g1, g2, v, g3, g4, g5, g6⟩ := ho j x hj'
          refine ⟨g1, by rw [World.frozen?_setCells]; exact g2, v, ?_, g4, g5, g6.write hl (by simp)⟩
          rw [World.cell?_setCells_out b us (o + off) w _ (fun _ _ => by simp only; omega)]
          exact g3
      · rename_i hne
        obtain ⟨b2, o2, hm2, ho2⟩ := hr.obj id' cs2 hid'
        refine ⟨b2, o2, hm2, fun j x hj => ?_⟩
        obtain ⟨g1, g2, v, g3, g4, g5, g6⟩ := ho2 j x hj
        exact ⟨g1, by rw [World.frozen?_setCells]; exact g2, v, by rw [setCells_out hl g1 (by simpa using hne)]; exact g3, g4, g5, g6.write hl (by simp)⟩
  · cases hs

theorem run_storeVar {P : Program} {w : World} {t n b o : Nat} {v : Value} (hs : szT P t = some n) (hl : v.cells.toList.length = n) (hc : ∀ j, j < v.cells.toList.length → (w.cell? ⟨b, o + j, none⟩).isSome = true)
    (hf : ∀ j, j < v.cells.toList.length → w.frozen? ⟨b, o + j, none⟩ = false) (h1 : ∀ u ∈ v.cells.toList, u.oneCell' = true) : (storeVar t ⟨b, o, none⟩ v).run P w = .ok () (w.setCells b o v.cells.toList) := by
  simp only [szT, Option.map_eq_some_iff] at hs
  obtain ⟨i, hi, rfl⟩ := hs
  have := run_storeCells_cells (P := P) b o v.cells.toList 0 w (by simpa using hc) (by simpa using hf) h1
  simp only [Nat.add_zero] at this
  have hl' : v.cells.size = i.size := by rw [← hl]; simp
  simp [storeVar, run_sizeOf' hi, hl', this]

/-- a store -/
theorem SR.store (hs : SR X B w0 p nt G O fr c h a w) {P : Program} {t n : Nat} {id : Id} {off : Nat} {cs cs' vs : List A} {v : A} {x : Value} {y : Operand} (hsz : szT P t = some n) (hx : V G (.ptr id off) x)
    (ht : takeA fr y = some (v, fr1)) (hst : v.stored = some vs) (hn : vs.length = n) (hid : h id = some cs) (hsp : splice cs off vs = some cs') {d : Option Nat} (hd : ∀ x, d = some x → x < nt) :
    ∃ w', (Instr.storeAt t x (a.eval y)).run P w = .ok () w' ∧ Later X B w0 p nt c G O w (fr1.put d .top) c (upd h id cs') (a.put d undef) w' := by
  cases hx with
  | @ptr _ _ b o hm =>
    obtain ⟨hv, O', hO, hf, hroom⟩ := hs.fr.take ht (.hsp id off)
    obtain ⟨g1, g2, g3⟩ := hv.stored hst
    have hr' := hs.r.take hO
    have hw := hr'.write hm hid hsp g1 g2 (by
      intro j x u hj hu
      rcases g3 with g3 | ⟨rfl, e⟩
      · exact Room.free (g3 j x hj)
      · rw [e] at hu
        cases j with
        | zero => simp at hj hu; subst hj; subst hu; exact hroom
        | succ j => simp at hj)
    obtain ⟨k1, k2, k3, k4⟩ := hw
    refine ⟨w.setCells b (o + off) (a.eval y).cells.toList, ?_, G, O', ⟨?_, k1, hs.fresh, by rw [Act.put_defers']; exact hs.defers⟩, ?_⟩
    · simp [Instr.storeAt, Instr.sureAddr, run_storeVar hsz (by rw [g1.length, hn]) k3 k4 g2]
    · exact (hf.write k2 (by simp)).put hd .top (fun _ _ => Room.free (by intro xs s e; cases e))
    · exact Mv.trans (.same (.take hO)) ⟨G.le_refl, .write k2 (fun l hl e => by subst e; exact hl), Nat.le_refl _, fun _ _ => rfl⟩
end
end Go.Ai

