/- Part KD of the proof that a law of this program answers yes at every input: no conditions beyond the given statement. -/
import Derived.Lib.Join
import Derived.Lib.UnsafeStr
import Derived.ChangeArms
import Derived.Carry
import Derived.Handed
import Derived.ChangeSame
import Derived.WideShapes
import Derived.RowKit
import Derived.Test.YtbpllbpgaiphaaaGreatDoorKC
import Derived.Test.YtbpllbpgaiphaaaGreatDoorKB
set_option linter.unusedSimpArgs false
set_option linter.unusedVariables false
set_option linter.all false
/- How the evaluator goes on, step by step: equations. -/
namespace Go.Ai

@[congr] theorem obind_congr {α β : Type} {x y : Option α} {f : α → Option β} (h : x = y) : x.bind f = y.bind f := by rw [h]
@[congr] theorem omap_congr {α β : Type} {x y : Option α} {f : α → β} (h : x = y) : x.map f = y.map f := by rw [h]
@[simp] theorem obind_ite {α β : Type} {c : Prop} [Decidable c] {x y : Option α} {f : α → Option β} : (if c then x else y).bind f = if c then x.bind f else y.bind f := by split <;> rfl
@[simp] theorem omap_ite {α β : Type} {c : Prop} [Decidable c] {x y : Option α} {f : α → β} : (if c then x else y).map f = if c then x.map f else y.map f := by split <;> rfl

section
variable {E : Env} {cl : Id → Nat → List A → Heap → Option (A × Heap)} {f m : Nat} {p : Id} {fr : Fr} {c : Nat} {h : Heap} {tg : List Nat} {ds : List (Option Nat)}
@[simp] theorem Fr.set_apply {d : Nat} {v : A} {t : Nat} : (fr.set d v) t = if t = d then v else fr t := rfl
@[simp] theorem Fr.put_some {d : Nat} {v : A} : fr.put (some d) v = fr.set d v := rfl
@[simp] theorem Fr.put_none {v : A} : fr.put none v = fr := rfl
@[simp] theorem initFr_zero {a : A} {as : List A} : initFr (a :: as) 0 = a := rfl
@[simp] theorem initFr_succ {a : A} {as : List A} {t : Nat} : initFr (a :: as) (t + 1) = initFr as t := by simp [initFr, List.getD]
@[simp] theorem initFr_nil {t : Nat} : initFr [] t = .top := rfl

/-- what follows an operation -/
def nextX (E : Env) (cl : Id → Nat → List A → Heap → Option (A × Heap)) (p : Id) (tg : List Nat) (ds : List (Option Nat)) (os : List Oper) (r : Fr × Nat × Heap) : Option (Fr × Nat × Heap) := runB E cl p tg ds os r.1 r.2.1 r.2.2
@[simp] theorem nextX_mk {os : List Oper} : nextX E cl p tg ds os (fr, c, h) = runB E cl p tg ds os fr c h := rfl
@[simp] theorem runB_nil : runB E cl p tg ds [] fr c h = some (fr, c, h) := rfl
@[simp] theorem runB_cons {d : Option Nat} {op : Op} {ty : Nat} {pos : String} {after : Array Edge} {os : List Oper} : runB E cl p tg ds (⟨d, op, ty, pos, after, none⟩ :: os) fr c h = (opB E cl p tg d op ty fr c h).bind (nextX E cl p tg ds os) := rfl
/-- a guard -/
def guardX (w : Bool) (x : Option A) (a b : Option (Fr × Nat × Heap)) : Option (Fr × Nat × Heap) := match x.bind (wantA w) with
  | some true => a
  | some false => b
  | none => none
@[congr] theorem guardX_congr {w : Bool} {x y : Option A} {a b : Option (Fr × Nat × Heap)} (h : x = y) : guardX w x a b = guardX w y a b := by rw [h]
@[simp] theorem guardX_true {t : Bool} {a b : Option (Fr × Nat × Heap)} : guardX true (some (.bool t)) a b = if t = true then a else b := by cases t <;> rfl
@[simp] theorem guardX_false {t : Bool} {a b : Option (Fr × Nat × Heap)} : guardX false (some (.bool t)) a b = if t = true then b else a := by cases t <;> rfl
@[simp] theorem guardX_none {w : Bool} {a b : Option (Fr × Nat × Heap)} : guardX w (some (.tuple [])) a b = b := rfl
@[simp] theorem runB_guard {d : Option Nat} {op : Op} {ty : Nat} {pos : String} {after : Array Edge} {j : Nat} {w : Bool} {os : List Oper} : runB E cl p tg ds (⟨d, op, ty, pos, after, some (j, w)⟩ :: os) fr c h =
    guardX w (((ds[j]?).bind id).map fr) ((opB E cl p tg d op ty fr c h).bind (nextX E cl p tg ds os)) (runB E cl p tg ds os (fr.put d (.tuple [])) c h) := by
  simp only [runB, guardX, guardB]
  generalize (((ds[j]?).bind id).map fr).bind (wantA w) = g
  cases g with
  | none => rfl
  | some b => cases b <;> rfl

@[simp] theorem appT_nil : appT [] = [] := rfl
@[simp] theorem appT_cons {o : Oper} {os : List Oper} : appT (o :: os) = appT1 o ++ appT os := rfl
attribute [simp] appT1
@[simp] theorem dsts_nil : dsts [] = [] := rfl
@[simp] theorem dsts_cons {o : Oper} {os : List Oper} : dsts (o :: os) = o.dst :: dsts os := rfl
@[simp] theorem feedB_none : feedB tg none = false := rfl
@[simp] theorem feedB_some {d : Nat} : feedB tg (some d) = tg.any (· == d) := rfl
end

section
variable {fr : Fr}
@[simp] theorem ev_tmp {t : Nat} : ev fr (.tmp t) = some (fr t) := rfl
@[simp] theorem ev_const {v : Value} : ev fr (.const v) = ofConst v := rfl
@[simp] theorem ev_func {f : Nat} : ev fr (.func f) = some (.fn f []) := rfl
@[simp] theorem evw_eq {x : Operand} : evw fr x = (ev fr x).map A.weak := rfl
@[simp] theorem ofConst_int {k : IntKind} {n : Int} : ofConst (.int k n) = some (.int k n) := rfl
@[simp] theorem ofConst_bool {b : Bool} : ofConst (.bool b) = some (.bool b) := rfl
@[simp] theorem ofConst_str {s : List UInt8} : ofConst (.string ⟨⟨s⟩⟩) = some (.str s) := rfl
@[simp] theorem ofConst_nilp : ofConst (.pointer none) = some .nilp := rfl
@[simp] theorem ofConst_nils : ofConst (.slice none 0 0) = some .nils := rfl
@[simp] theorem ofConst_nilf : ofConst .nilFunc = some .nilf := rfl
@[simp] theorem ofConst_nili : ofConst .nilIface = some .nili := rfl
@[simp] theorem weak_int {k : IntKind} {n : Int} : (A.int k n).weak = .int k n := rfl
@[simp] theorem weak_bool {b : Bool} : (A.bool b).weak = .bool b := rfl
@[simp] theorem weak_str {s : List UInt8} : (A.str s).weak = .str s := rfl
@[simp] theorem weak_nilp : A.nilp.weak = .nilp := rfl
@[simp] theorem weak_ptr {i : Id} {o : Nat} : (A.ptr i o).weak = .ptr i o := rfl
@[simp] theorem weak_ref {cs : List A} {o : Nat} : (A.ref cs o).weak = .ref cs o := rfl
@[simp] theorem weak_nils : A.nils.weak = .slice [] none := rfl
@[simp] theorem weak_slice {xs : List (List A)} {w : Option (Nat × Nat)} : (A.slice xs w).weak = .slice xs none := rfl
@[simp] theorem weak_mslice {i : Id} {o n : Nat} : (A.mslice i o n).weak = .mslice i o n := rfl
@[simp] theorem weak_nilf : A.nilf.weak = .nilf := rfl
@[simp] theorem weak_fn {f : Nat} {cs : List A} : (A.fn f cs).weak = .fn f cs := rfl
@[simp] theorem weak_nili : A.nili.weak = .nili := rfl
@[simp] theorem weak_iface {t : Nat} {a : A} : (A.iface t a).weak = .iface t a := rfl
@[simp] theorem weak_agg {cs : List A} : (A.agg cs).weak = .agg (cs.map A.weak1) := rfl
@[simp] theorem weak_tuple {cs : List A} : (A.tuple cs).weak = .tuple cs := rfl
@[simp] theorem weak_top : A.top.weak = .top := rfl
@[simp] theorem weak1_int {k : IntKind} {n : Int} : (A.int k n).weak1 = .int k n := rfl
@[simp] theorem weak1_bool {b : Bool} : (A.bool b).weak1 = .bool b := rfl
@[simp] theorem weak1_str {s : List UInt8} : (A.str s).weak1 = .str s := rfl
@[simp] theorem weak1_nilp : A.nilp.weak1 = .nilp := rfl
@[simp] theorem weak1_ptr {i : Id} {o : Nat} : (A.ptr i o).weak1 = .ptr i o := rfl
@[simp] theorem weak1_ref {cs : List A} {o : Nat} : (A.ref cs o).weak1 = .ref cs o := rfl
@[simp] theorem weak1_nils : A.nils.weak1 = .slice [] none := rfl
@[simp] theorem weak1_slice {xs : List (List A)} {w : Option (Nat × Nat)} : (A.slice xs w).weak1 = .slice xs none := rfl
@[simp] theorem weak1_mslice {i : Id} {o n : Nat} : (A.mslice i o n).weak1 = .mslice i o n := rfl
@[simp] theorem weak1_nilf : A.nilf.weak1 = .nilf := rfl
@[simp] theorem weak1_fn {f : Nat} {cs : List A} : (A.fn f cs).weak1 = .fn f cs := rfl
@[simp] theorem weak1_nili : A.nili.weak1 = .nili := rfl
@[simp] theorem weak1_iface {t : Nat} {a : A} : (A.iface t a).weak1 = .iface t a := rfl
@[simp] theorem weak1_weak1 {a : A} : a.weak1.weak1 = a.weak1 := by cases a <;> rfl
@[simp] theorem noOwn1_weak1 {a : A} : a.weak1.noOwn1 = a.weak1 := by cases a <;> rfl
@[simp] theorem weak1_noOwn1 {a : A} : a.noOwn1.weak1 = a.weak1 := by cases a <;> rfl
@[simp] theorem noOwn1_noOwn1 {a : A} : a.noOwn1.noOwn1 = a.noOwn1 := by cases a <;> rfl
@[simp] theorem noOwn_int {k : IntKind} {n : Int} : (A.int k n).noOwn = .int k n := rfl
@[simp] theorem noOwn_bool {b : Bool} : (A.bool b).noOwn = .bool b := rfl
@[simp] theorem noOwn_str {s : List UInt8} : (A.str s).noOwn = .str s := rfl
@[simp] theorem noOwn_nilp : A.nilp.noOwn = .nilp := rfl
@[simp] theorem noOwn_ptr {i : Id} {o : Nat} : (A.ptr i o).noOwn = .ptr i o := rfl
@[simp] theorem noOwn_ref {cs : List A} {o : Nat} : (A.ref cs o).noOwn = .ref cs o := rfl
@[simp] theorem noOwn_nils : A.nils.noOwn = .nils := rfl
@[simp] theorem noOwn_slice {xs : List (List A)} {w : Option (Nat × Nat)} : (A.slice xs w).noOwn = .slice xs none := rfl
@[simp] theorem noOwn_mslice {i : Id} {o n : Nat} : (A.mslice i o n).noOwn = .mslice i o n := rfl
@[simp] theorem noOwn_nilf : A.nilf.noOwn = .nilf := rfl
@[simp] theorem noOwn_fn {f : Nat} {cs : List A} : (A.fn f cs).noOwn = .fn f cs := rfl
@[simp] theorem noOwn_nili : A.nili.noOwn = .nili := rfl
@[simp] theorem noOwn_iface {t : Nat} {a : A} : (A.iface t a).noOwn = .iface t a := rfl
@[simp] theorem noOwn_agg {cs : List A} : (A.agg cs).noOwn = .agg (cs.map A.noOwn1) := rfl
@[simp] theorem noOwn1_int {k : IntKind} {n : Int} : (A.int k n).noOwn1 = .int k n := rfl
@[simp] theorem noOwn1_bool {b : Bool} : (A.bool b).noOwn1 = .bool b := rfl
@[simp] theorem noOwn1_str {s : List UInt8} : (A.str s).noOwn1 = .str s := rfl
@[simp] theorem noOwn1_nilp : A.nilp.noOwn1 = .nilp := rfl
@[simp] theorem noOwn1_ptr {i : Id} {o : Nat} : (A.ptr i o).noOwn1 = .ptr i o := rfl
@[simp] theorem noOwn1_ref {cs : List A} {o : Nat} : (A.ref cs o).noOwn1 = .ref cs o := rfl
@[simp] theorem noOwn1_nils : A.nils.noOwn1 = .nils := rfl
@[simp] theorem noOwn1_slice {xs : List (List A)} {w : Option (Nat × Nat)} : (A.slice xs w).noOwn1 = .slice xs none := rfl
@[simp] theorem noOwn1_mslice {i : Id} {o n : Nat} : (A.mslice i o n).noOwn1 = .mslice i o n := rfl
@[simp] theorem noOwn1_nilf : A.nilf.noOwn1 = .nilf := rfl
@[simp] theorem noOwn1_fn {f : Nat} {cs : List A} : (A.fn f cs).noOwn1 = .fn f cs := rfl
@[simp] theorem noOwn1_nili : A.nili.noOwn1 = .nili := rfl
@[simp] theorem noOwn1_iface {t : Nat} {a : A} : (A.iface t a).noOwn1 = .iface t a := rfl
@[simp] theorem takeA_tmp {t : Nat} : takeA fr (.tmp t) = some (fr t, fr.set t (fr t).weak) := rfl
@[simp] theorem takeA_const {v : Value} : takeA fr (.const v) = (ofConst v).map (·, fr) := rfl
@[simp] theorem takeA_func {f : Nat} : takeA fr (.func f) = some (.fn f [], fr) := rfl
end

section
variable {E : Env} {cl : Id → Nat → List A → Heap → Option (A × Heap)} {p : Id} {fr : Fr} {c : Nat} {h : Heap} {tg : List Nat} {d : Option Nat} {ty : Nat}

def setX (d : Option Nat) (c : Nat) (h : Heap) (fr : Fr) (v : A) : Fr × Nat × Heap := (fr.put d v, c, h)
@[simp] theorem setX_eq {v : A} : setX d c h fr v = (fr.put d v, c, h) := rfl
/-- a pure operation -/
def pureX (P : Program) (ty : Nat) (fr : Fr) (op : Op) : Option A := pureA P fr { dst := none, op, type := ty, pos := "", guard := none, after := #[] }
theorem pureA_X {P : Program} {d : Option Nat} {op : Op} : pureA P fr { dst := d, op, type := ty, pos := "", guard := none, after := #[] } = pureX P ty fr op := by
  cases op <;> rfl

@[simp] theorem opB_move {x : Operand} : opB E cl p tg d (.move x) ty fr c h = if feedB tg d = true then (takeA fr x).map fun r => (r.2.put d r.1, c, h) else (evK E.feed fr x).map (setX d c h fr) := rfl
@[simp] theorem opB_assign {x : Operand} : opB E cl p tg d (.assign x) ty fr c h = (takeA fr x).map fun r => (r.2.put d r.1, c, h) := rfl
@[simp] theorem opB_alloc {t : Nat} : opB E cl p tg d (.alloc t) ty fr c h = (zeroT E.P t).map fun z => (fr.put d (.ptr (t :: c :: p) 0), c + 1, upd h (t :: c :: p) z) := rfl
@[simp] theorem opB_box {t : Nat} {x : Operand} : opB E cl p tg d (.box t x) ty fr c h = (ev fr x).bind fun v => v.noOwn.cells.map fun cs => (fr.put d (.ptr (t :: c :: p) 0), c + 1, upd h (t :: c :: p) cs) := rfl

/-- a load -/
def loadX (P : Program) (t : Nat) (h : Heap) : A → Option A := fun a => loadA P t a h
def loadF (P : Program) (t : Nat) (d : Option Nat) (fr : Fr) (c : Nat) (h : Heap) (a : A) : Option (Fr × Nat × Heap) := match a with
  | .ptr id off => (h id).bind fun cs => match shapeT P t with
    | some (_, false) => (cs[off]?).map fun v => (fr.put d v, c, upd h id (cs.set off v.weak1))
    | _ => none
  | _ => none
@[simp] theorem opB_load {t : Nat} {x : Operand} : opB E cl p tg d (.load t x) ty fr c h =
    if feedB tg d = true then (ev fr x).bind (loadF E.P t d fr c h) else (((ev fr x).bind (loadX E.P t h)).map A.noOwn).map (setX d c h fr) := by
  simp only [opB]
  split
  · cases hx : ev fr x with
    | none => rfl
    | some a => simp [loadF]; rfl
  · cases hx : ev fr x with
    | none => rfl
    | some a => simp only [Option.bind_some, loadX]; cases loadA E.P t a h <;> rfl
def storeX (P : Program) (t : Nat) (d : Option Nat) (c : Nat) (h : Heap) (a : A) (r : A × Fr) : Option (Fr × Nat × Heap) := match a, szT P t with
    | .ptr id off, some n => r.1.stored.bind fun vs => if vs.length = n then (h id).bind fun cs => (splice cs off vs).map fun cs => (r.2.put d .top, c, upd h id cs) else none
    | _, _ => none
@[simp] theorem opB_store {t : Nat} {x y : Operand} : opB E cl p tg d (.store t x y) ty fr c h = (ev fr x).bind fun a => (takeA fr y).bind (storeX E.P t d c h a) := rfl

/-- two values at once -/
def b2 (g : A → A → Option A) : Option A → Option A → Option A
  | some a, some b => g a b
  | _, _ => none
@[simp] theorem b2_some {g : A → A → Option A} {a b : A} : b2 g (some a) (some b) = g a b := rfl
@[simp] theorem opB_bin {o : BinOp} {t t2 : Nat} {x y : Operand} : opB E cl p tg d (.binOp o t x y t2) ty fr c h = (b2 (binA E.P o t (isConst x || isConst y)) (evw fr x) (evw fr y)).map fun v => (fr.put d v.noOwn, c, h) := by
  show Option.map _ (Option.bind _ fun a => Option.bind _ fun b => _) = _
  cases evw fr x <;> cases evw fr y <;> rfl
def notX : A → Option A
  | .bool b => some (.bool !b)
  | _ => none
@[simp] theorem notX_bool {b : Bool} : notX (.bool b) = some (.bool !b) := rfl
@[simp] theorem opB_not {t : Nat} {x : Operand} : opB E cl p tg d (.unOp .not t x) ty fr c h = ((evw fr x).bind notX).map fun v => (fr.put d v.noOwn, c, h) := by
  show Option.map _ (Option.bind _ fun a => _) = _
  cases evw fr x with
  | none => rfl
  | some a => cases a <;> rfl
def nilX : A → Option A
  | .ptr id off => some (.ptr id off)
  | .ref cs off => some (.ref cs off)
  | .fn f cs => some (.fn f cs)
  | _ => none
@[simp] theorem nilX_ptr {id : Id} {o : Nat} : nilX (.ptr id o) = some (.ptr id o) := rfl
@[simp] theorem nilX_ref {cs : List A} {o : Nat} : nilX (.ref cs o) = some (.ref cs o) := rfl
@[simp] theorem nilX_fn {f : Nat} {cs : List A} : nilX (.fn f cs) = some (.fn f cs) := rfl
@[simp] theorem opB_nilCheck {x : Operand} : opB E cl p tg d (.nilCheck x) ty fr c h = ((evw fr x).bind nilX).map fun v => (fr.put d v.noOwn, c, h) := by
  show Option.map _ (Option.bind _ fun a => _) = _
  cases evw fr x with
  | none => rfl
  | some a => cases a <;> rfl
def fieldAddrX (k : Option Nat) : A → Option A
  | .ptr id off => k.map fun k => .ptr id (off + k)
  | .ref cs off => k.map fun k => .ref cs (off + k)
  | _ => none
@[simp] theorem fieldAddrX_ptr {k : Nat} {id : Id} {o : Nat} : fieldAddrX (some k) (.ptr id o) = some (.ptr id (o + k)) := rfl
@[simp] theorem fieldAddrX_ref {k : Nat} {cs : List A} {o : Nat} : fieldAddrX (some k) (.ref cs o) = some (.ref cs (o + k)) := rfl
@[simp] theorem opB_fieldAddr {s : Nat} {x : Operand} {f : Nat} : opB E cl p tg d (.fieldAddr s x f) ty fr c h = ((evw fr x).bind (fieldAddrX (fieldT E.P s f))).map fun v => (fr.put d v.noOwn, c, h) := by
  show Option.map _ (Option.bind _ fun a => _) = _
  cases evw fr x with
  | none => rfl
  | some a => cases a <;> simp only [Option.bind_some] <;> cases fieldT E.P s f <;> rfl
def fieldX (q : Option (Nat × Nat × Bool)) : A → Option A
  | .agg cs => q.bind fun q => pickCells q.2.2 cs q.1 q.2.1
  | _ => none
@[simp] theorem fieldX_agg {cs : List A} {o n : Nat} {g : Bool} : fieldX (some (o, n, g)) (.agg cs) = pickCells g cs o n := rfl
@[simp] theorem opB_field {s : Nat} {x : Operand} {f : Nat} : opB E cl p tg d (.field s x f) ty fr c h = ((evw fr x).bind (fieldX (partT E.P s f))).map fun v => (fr.put d v.noOwn, c, h) := by
  show Option.map _ (Option.bind _ fun a => _) = _
  cases evw fr x with
  | none => rfl
  | some a => cases a <;> simp only [Option.bind_some] <;> cases partT E.P s f <;> rfl
def indexAddrX (P : Program) (k : Kd) : A → A → Option A
  | .slice xs _, .int _ n => match k with
    | .slice e => (szT P e).bind fun s => ((if 0 ≤ n then xs[n.toNat]? else none)).bind fun c => if c.length = s then some (.ref c 0) else none
    | _ => none
  | .mslice id off len, .int _ n => match k with
    | .slice e => (szT P e).bind fun s => if 0 ≤ n ∧ n < len then some (.ptr id (off + n.toNat * s)) else none
    | _ => none
  | _, _ => none
@[simp] theorem indexAddrX_slice {P : Program} {e : Nat} {xs : List (List A)} {w : Option (Nat × Nat)} {k : IntKind} {n : Int} : indexAddrX P (.slice e) (.slice xs w) (.int k n) =
    (szT P e).bind fun s => ((if 0 ≤ n then xs[n.toNat]? else none)).bind fun c => if c.length = s then some (.ref c 0) else none := rfl
@[simp] theorem indexAddrX_mslice {P : Program} {e : Nat} {id : Id} {o l : Nat} {k : IntKind} {n : Int} : indexAddrX P (.slice e) (.mslice id o l) (.int k n) =
    (szT P e).bind fun s => if 0 ≤ n ∧ n < l then some (.ptr id (o + n.toNat * s)) else none := rfl
@[simp] theorem opB_indexAddr {t : Nat} {x i : Operand} : opB E cl p tg d (.indexAddr t x i) ty fr c h = (b2 (indexAddrX E.P (kindT E.P t)) (evw fr x) (evw fr i)).map fun v => (fr.put d v.noOwn, c, h) := by
  show Option.map _ (Option.bind _ fun a => Option.bind _ fun b => _) = _
  cases evw fr x with
  | none => rfl
  | some a =>
    cases evw fr i with
    | none => rfl
    | some b =>
      simp only [Option.bind_some, b2_some]
      cases kindT E.P t <;> cases a <;> cases b <;> simp only [indexAddrX] <;> first
        | rfl
        | (cases szT E.P _ with
          | none => rfl
          | some s =>
            first
              | rfl
              | (simp only [Option.bind_some]; done)
              | (simp only [Option.bind_some]; generalize (if (0 : Int) ≤ _ then _ else none : Option (List A)) = q; cases q <;> rfl))
def indexX (k : Kd) : A → A → Option A
  | .str s, .int _ n => match k with
    | .str => (if 0 ≤ n then s[n.toNat]? else none).map fun b => .int .u8 b.toNat
    | _ => none
  | _, _ => none
@[simp] theorem indexX_str {s : List UInt8} {k : IntKind} {n : Int} : indexX .str (.str s) (.int k n) = (if 0 ≤ n then s[n.toNat]? else none).map fun b => .int .u8 b.toNat := rfl
@[simp] theorem opB_index {t : Nat} {x i : Operand} : opB E cl p tg d (.index t x i) ty fr c h = (b2 (indexX (kindT E.P t)) (evw fr x) (evw fr i)).map fun v => (fr.put d v.noOwn, c, h) := by
  show Option.map _ (Option.bind _ fun a => Option.bind _ fun b => _) = _
  cases evw fr x with
  | none => rfl
  | some a =>
    cases evw fr i with
    | none => rfl
    | some b =>
      simp only [Option.bind_some, b2_some]
      cases kindT E.P t <;> cases a <;> cases b <;> rfl
def extractX (i : Nat) : A → Option A
  | .tuple vs => (vs[i]?).map A.weak
  | _ => none
@[simp] theorem extractX_tuple {i : Nat} {vs : List A} : extractX i (.tuple vs) = (vs[i]?).map A.weak := rfl
@[simp] theorem opB_extract {x : Operand} {i : Nat} : opB E cl p tg d (.extract x i) ty fr c h = ((ev fr x).bind (extractX i)).map fun v => (fr.put d v.noOwn, c, h) := by
  show Option.map _ (Option.bind _ fun a => _) = _
  cases ev fr x with
  | none => rfl
  | some a => cases a <;> rfl
@[simp] theorem opB_makeFunc {f : Nat} {first : Array Operand} {caps : List Operand} : opB E cl p tg d (.makeFunc (.func f) first ⟨caps⟩) ty fr c h = (if first.size = 0 then (caps.mapM (evw fr)).map (A.fn f) else none).map fun v => (fr.put d v.noOwn, c, h) := rfl
def pickX (a b : Option A) : A → Option A
  | .bool t => if t then a else b
  | _ => none
@[simp] theorem pickX_bool {a b : Option A} {t : Bool} : pickX a b (.bool t) = if t = true then a else b := rfl
@[simp] theorem opB_pick {x a b : Operand} : opB E cl p tg d (.pick x a b) ty fr c h = ((evw fr x).bind (pickX (evw fr a) (evw fr b))).map fun v => (fr.put d v.noOwn, c, h) := by
  show Option.map _ (Option.bind _ fun a => _) = _
  cases evw fr x with
  | none => rfl
  | some a => cases a <;> rfl
@[simp] theorem opB_build {t : Nat} {parts : List (Nat × Operand)} : opB E cl p tg d (.build t ⟨parts⟩) ty fr c h = ((zeroT E.P t).bind fun z => (placesT E.P t).bind fun pl => (parts.mapM (evp fr)).bind fun ps => (fillA pl z ps).map A.agg).map fun v => (fr.put d v.noOwn, c, h) := rfl
@[simp] theorem opB_slice {t : Nat} {x : Operand} {lo hi : Option Operand} : opB E cl p tg d (.slice t x lo hi none) ty fr c h = ((evw fr x).bind fun x => (evo fr lo).bind fun lo => (evo fr hi).bind fun hi => sliceA (kindT E.P t) (szT E.P) x lo hi).map fun v => (fr.put d v.noOwn, c, h) := rfl
@[simp] theorem opB_len {x : Operand} {t : Nat} : opB E cl p tg d (.call ⟨.builtin .len, ⟨[x]⟩, ⟨[t]⟩⟩) ty fr c h = ((evw fr x).bind (lenA (kindT E.P t))).map fun v => (fr.put d v.noOwn, c, h) := rfl
def minX : A → A → Option A
  | .int k a, .int _ b => some (.int k (if b < a then b else a))
  | _, _ => none
def maxX : A → A → Option A
  | .int k a, .int _ b => some (.int k (if a < b then b else a))
  | _, _ => none
@[simp] theorem minX_int {k k' : IntKind} {a b : Int} : minX (.int k a) (.int k' b) = some (.int k (if b < a then b else a)) := rfl
@[simp] theorem maxX_int {k k' : IntKind} {a b : Int} : maxX (.int k a) (.int k' b) = some (.int k (if a < b then b else a)) := rfl
@[simp] theorem opB_min {x y : Operand} {ts : Array Nat} : opB E cl p tg d (.call ⟨.builtin .min, ⟨[x, y]⟩, ts⟩) ty fr c h = (b2 minX (evw fr x) (evw fr y)).map fun v => (fr.put d v.noOwn, c, h) := by
  show Option.map _ (Option.bind _ fun a => Option.bind _ fun b => _) = _
  cases evw fr x with
  | none => rfl
  | some a => cases evw fr y with
    | none => rfl
    | some b => cases a <;> cases b <;> rfl
@[simp] theorem opB_max {x y : Operand} {ts : Array Nat} : opB E cl p tg d (.call ⟨.builtin .max, ⟨[x, y]⟩, ts⟩) ty fr c h = (b2 maxX (evw fr x) (evw fr y)).map fun v => (fr.put d v.noOwn, c, h) := by
  show Option.map _ (Option.bind _ fun a => Option.bind _ fun b => _) = _
  cases evw fr x with
  | none => rfl
  | some a => cases evw fr y with
    | none => rfl
    | some b => cases a <;> cases b <;> rfl
/-- an append -/
def appendE (ob : Nat → Bool) (p : Id) (e : Nat) (s b : Option Nat) (z : Option (List A)) (ok : Bool) (d : Option Nat) (c : Nat) (h : Heap) (u : A) (r : A × Fr) : Option (Fr × Nat × Heap) := match s, b, z, ok with
  | some s, some b, some z, true => if z.length = s then (appendO ob e s b p c h r.1 u).map fun v => (r.2.put d v.1, v.2.1, v.2.2) else none
  | _, _, _, _ => none
def appendX (E : Env) (p : Id) (k : Kd) (ok : Bool) (d : Option Nat) (c : Nat) (h : Heap) (u : A) (r : A × Fr) : Option (Fr × Nat × Heap) := match k with
  | .slice e => appendE E.obj p e (szT E.P e) (bytesT E.P e) (zeroT E.P e) ok d c h u r
  | _ => none
@[simp] theorem appendX_slice {E : Env} {p : Id} {e : Nat} {ok : Bool} {u : A} {r : A × Fr} : appendX E p (.slice e) ok d c h u r = appendE E.obj p e (szT E.P e) (bytesT E.P e) (zeroT E.P e) ok d c h u r := rfl
@[simp] theorem appendE_some {ob : Nat → Bool} {p : Id} {e s b : Nat} {z : List A} {u : A} {r : A × Fr} : appendE ob p e (some s) (some b) (some z) true d c h u r = if z.length = s then (if ob e = true then appendO ob e s b p c h r.1 u else (appendA e s b r.1 u).map fun v => (v, c, h)).map fun v => (r.2.put d v.1, v.2.1, v.2.2) else none := by
  simp only [appendE]
  by_cases ho : ob e = true
  · rw [if_pos ho]
  · rw [if_neg ho]
    have ho' : ob e = false := by simpa using ho
    simp only [appendO, ho']
@[simp] theorem plain_slice {e : Nat} : (Kd.slice e).plain = true := rfl
@[simp] theorem plain_str : Kd.str.plain = true := rfl
@[simp] theorem opB_append {x y : Operand} {t t2 : Nat} : opB E cl p tg d (.call ⟨.builtin .append, ⟨[x, y]⟩, ⟨[t, t2]⟩⟩) ty fr c h = (evw fr y).bind fun u => (takeA fr x).bind (appendX E p (kindT E.P t) ((kindT E.P t2).plain && d.isSome) d c h u) := by
  simp only [opB, stepA]
  cases hy : evw fr y with
  | none =>
    cases kindT E.P t <;> cases ((kindT E.P t2).plain && d.isSome) <;> try rfl
    simp only [Option.bind_none, Option.bind_some]
    split <;> (try split) <;> rfl
  | some u =>
    cases htk : takeA fr x with
    | none =>
      cases kindT E.P t <;> cases ((kindT E.P t2).plain && d.isSome) <;> try rfl
      simp only [Option.bind_none, Option.bind_some]
      split <;> (try split) <;> rfl
    | some r =>
      simp only [Option.bind_some, appendX]
      cases kindT E.P t <;> cases ((kindT E.P t2).plain && d.isSome) <;> try rfl
      · simp only [appendE]
        split <;> simp_all
      · simp only [appendE]
        split <;> simp_all
@[simp] theorem growA_own {e s : Nat} {q : Nat × Nat} {xs : List (List A)} : growA e s (.slice xs (some q)) = if q = (e, s) then some xs else none := rfl
@[simp] theorem growA_nils {e s : Nat} : growA e s .nils = some [] := rfl
@[simp] theorem addedA_slice {s : Nat} {ys : List (List A)} {w : Option (Nat × Nat)} : addedA s (.slice ys w) = if headLen s ys = true then some ys else none := rfl
@[simp] theorem addedA_nils {s : Nat} : addedA s .nils = some [] := rfl
@[simp] theorem addedA_str {s : Nat} {b : List UInt8} : addedA s (.str b) = if s = 1 then some (bytesA b) else none := rfl
@[simp] theorem appendA_eq {e s b : Nat} {x y : A} : appendA e s b x y = (growA e s x).bind fun xs => (addedA s y).bind fun ys => if (xs.length + ys.length) * b ≤ 140737488355328 ∧ xs.length + ys.length ≤ maxStr then some (.slice (xs ++ ys) (some (e, s))) else none := rfl
@[simp] theorem headLen_bytesA {b : List UInt8} : headLen 1 (bytesA b) = true := by cases b <;> rfl
@[simp] theorem length_bytesA {b : List UInt8} : (bytesA b).length = b.length := by simp [bytesA]
@[simp] theorem bytesA_append {a b : List UInt8} : bytesA a ++ bytesA b = bytesA (a ++ b) := by simp [bytesA]
@[simp] theorem unbytes_bytesA2 {b : List UInt8} : unbytes (bytesA b) = some b := by
  induction b with
  | nil => rfl
  | cons x xs ih =>
    have : bytesA (x :: xs) = [.int .u8 x.toNat] :: bytesA xs := rfl
    rw [this, unbytes, ih]
    have := x.toNat_lt
    rw [if_pos (by omega)]
    simp
def callX (cl : Id → Nat → List A → Heap → Option (A × Heap)) (p : Id) (d : Option Nat) (fr : Fr) (c : Nat) (h : Heap) (vs : List A) : A → Option (Fr × Nat × Heap)
  | .fn f caps => (cl (c :: p) f (vs ++ caps.map A.noOwn) h).map fun r => (fr.put d r.1, c + 1, r.2)
  | _ => none
@[simp] theorem callX_fn {f : Nat} {caps vs : List A} : callX cl p d fr c h vs (.fn f caps) = (cl (c :: p) f (vs ++ caps.map A.noOwn) h).map fun r => (fr.put d r.1, c + 1, r.2) := rfl
@[simp] theorem opB_call {g : Operand} {args : List Operand} {ts : Array Nat} : opB E cl p tg d (.call ⟨.value g, ⟨args⟩, ts⟩) ty fr c h = (if rawG E g = true then args.mapM (evn fr) else args.mapM (evw fr)).bind fun vs => (evw fr g).bind (callX cl p d fr c h vs) := by
  show (evw fr g).bind (fun gv => (argsA E fr g args).bind fun vs => _) = (argsA E fr g args).bind _
  cases evw fr g with
  | none => cases argsA E fr g args <;> rfl
  | some a => cases argsA E fr g args with
    | none => rfl
    | some vs => cases a <;> rfl
@[simp high] theorem mapM_nilX : ([] : List Operand).mapM (evw fr) = some [] := rfl
def consX (xs : Option (List A)) (a : A) : Option (List A) := xs.map (a :: ·)
@[simp] theorem consX_some {xs : List A} {a : A} : consX (some xs) a = some (a :: xs) := rfl
@[simp high] theorem mapM_consX {x : Operand} {xs : List Operand} : (x :: xs).mapM (evw fr) = (evw fr x).bind (consX (xs.mapM (evw fr))) := by
  simp only [List.mapM_cons]
  cases evw fr x with
  | none => rfl
  | some a => cases xs.mapM (evw fr) <;> rfl
@[simp] theorem evn_eq {x : Operand} : evn fr x = (ev fr x).map A.noOwn := rfl
@[simp] theorem rawG_func {f : Nat} : rawG E (.func f) = E.raw f := rfl
@[simp] theorem rawG_tmp {t : Nat} : rawG E (.tmp t) = false := rfl
@[simp high] theorem mapM_nilN : ([] : List Operand).mapM (evn fr) = some [] := rfl
@[simp high] theorem mapM_consN {x : Operand} {xs : List Operand} : (x :: xs).mapM (evn fr) = (evn fr x).bind (consX (xs.mapM (evn fr))) := by
  simp only [List.mapM_cons]
  cases evn fr x with
  | none => rfl
  | some a => cases xs.mapM (evn fr) <;> rfl
@[simp high] theorem mapM_nilP : ([] : List (Nat × Operand)).mapM (evp fr) = some [] := rfl
def consP (xs : Option (List (Nat × A))) (i : Nat) (a : A) : Option (List (Nat × A)) := xs.map ((i, a) :: ·)
@[simp] theorem consP_some {xs : List (Nat × A)} {i : Nat} {a : A} : consP (some xs) i a = some ((i, a) :: xs) := rfl
@[simp high] theorem mapM_consP {i : Nat} {x : Operand} {xs : List (Nat × Operand)} : ((i, x) :: xs).mapM (evp fr) = (evw fr x).bind (consP (xs.mapM (evp fr)) i) := by
  simp only [List.mapM_cons, evp]
  cases evw fr x with
  | none => rfl
  | some a => cases xs.mapM (evp fr) <;> rfl
@[simp] theorem evpK_true : evpK true fr = evp fr := rfl
@[simp high] theorem mapM_nilK : ([] : List (Nat × Operand)).mapM (evpK false fr) = some [] := rfl
@[simp high] theorem mapM_consK {i : Nat} {x : Operand} {xs : List (Nat × Operand)} : ((i, x) :: xs).mapM (evpK false fr) = (evn fr x).bind (consP (xs.mapM (evpK false fr)) i) := by
  simp only [List.mapM_cons, evpK]
  cases evn fr x with
  | none => rfl
  | some a => cases xs.mapM (evpK false fr) <;> rfl
@[simp] theorem evo_some {x : Operand} : evo fr (some x) = (evw fr x).map some := rfl
@[simp] theorem evo_none : evo fr none = some none := rfl
end
end Go.Ai

/- How the evaluator goes on, step by step: more equations. -/
namespace Go.Ai

section
variable {E : Env} {cl : Id → Nat → List A → Heap → Option (A × Heap)} {p : Id} {fr : Fr} {c : Nat} {h : Heap} {tg : List Nat} {d : Option Nat} {ty : Nat}

/-- a conversion; 'u': has the source type an underlying one?; 'es', 'ed': kinds of the elements of the source and of the target -/
def convX (ks kd : Kd) (u : Bool) (el : Nat → Kd) (h : Heap) (v : A) : Option A := match kd, v with
  | .int k, .int _ n => if u then some (.int k (k.wrap n)) else none
  | .str, .str s => if ks = .str then some (.str s) else none
  | .str, .slice xs _ => match ks with
    | .slice e => if el e = .int .u8 then (unbytes xs).map .str else none
    | _ => none
  | .str, .nils => match ks with
    | .slice e => if el e = .int .u8 then some (.str []) else none
    | _ => none
  | .str, .mslice id off len => match ks with
    | .slice e => if el e = .int .u8 then (h id).bind fun cs => (if off + len ≤ cs.length then unbytes (((cs.drop off).take len).map ([·])) else none).map .str else none
    | _ => none
  | .slice e, .str b => if ks = .str ∧ el e = .int .u8 then some (.slice (bytesA b) none) else none
  | _, _ => none
theorem opB_convert {s t : Nat} {x : Operand} : opB E cl p tg d (.convert s t x) ty fr c h = ((evw fr x).bind (convX (kindT E.P s) (kindT E.P t) (E.P.underlying s).isSome (kindT E.P) h)).map fun v => (fr.put d v, c, h) := by
  simp only [opB, stepA, pureA]
  cases hx : evw fr x with
  | none => cases kindT E.P s <;> cases kindT E.P t <;> rfl
  | some v =>
    simp only [Option.bind_some]
    cases v with
    | str b =>
      cases hs : kindT E.P s <;> cases ht : kindT E.P t <;> simp [convX, convA, hs, ht]
      try (split <;> rfl)
    | mslice id off len =>
      cases hs : kindT E.P s <;> cases ht : kindT E.P t <;> simp [convX, convA, hs, ht]
      split
      · cases h id with
        | none => rfl
        | some cs => simp only [Option.bind_some]; split <;> rename_i hh <;> simp [hh, Function.comp_def]
      · rfl
    | slice xs w =>
      cases hs : kindT E.P s <;> cases ht : kindT E.P t <;> simp [convX, convA, hs, ht]
      split
      · cases unbytes xs <;> rfl
      · rfl
    | nils =>
      cases hs : kindT E.P s <;> cases ht : kindT E.P t <;> simp [convX, convA, hs, ht]
      try (split <;> rfl)
    | int k n =>
      cases hs : kindT E.P s <;> cases ht : kindT E.P t <;> simp [convX, convA, hs, ht]
      all_goals try (split <;> rfl)
    | _ => cases hs : kindT E.P s <;> cases ht : kindT E.P t <;> simp [convX, convA, hs, ht]
attribute [simp] opB_convert
@[simp] theorem convX_int {ks : Kd} {k k' : IntKind} {u : Bool} {el : Nat → Kd} {n : Int} : convX ks (.int k) u el h (.int k' n) = if u = true then some (.int k (k.wrap n)) else none := rfl
@[simp] theorem convX_strstr {u : Bool} {el : Nat → Kd} {s : List UInt8} : convX .str .str u el h (.str s) = some (.str s) := rfl
@[simp] theorem convX_slstr {e : Nat} {u : Bool} {el : Nat → Kd} {xs : List (List A)} {w : Option (Nat × Nat)} : convX (.slice e) .str u el h (.slice xs w) = if el e = .int .u8 then (unbytes xs).map .str else none := rfl
@[simp] theorem convX_nilstr {e : Nat} {u : Bool} {el : Nat → Kd} : convX (.slice e) .str u el h .nils = if el e = .int .u8 then some (.str []) else none := rfl
@[simp] theorem convX_mslstr {e : Nat} {u : Bool} {el : Nat → Kd} {id : Id} {off len : Nat} : convX (.slice e) .str u el h (.mslice id off len) = if el e = .int .u8 then (h id).bind fun cs => (if off + len ≤ cs.length then unbytes (((cs.drop off).take len).map ([·])) else none).map .str else none := rfl
@[simp] theorem convX_strsl {e : Nat} {u : Bool} {el : Nat → Kd} {s : List UInt8} : convX .str (.slice e) u el h (.str s) = if el e = .int .u8 then some (.slice (bytesA s) none) else none := by simp [convX]

/-- an interface value -/
def frzX (t : Nat) (d : Option Nat) (fr : Fr) (c : Nat) (h : Heap) : A → Option (Fr × Nat × Heap)
  | .ptr id 0 => (h id).map fun cs => (fr.put d (.iface t (.ref (cs.map A.weak1) 0)), c, era h id)
  | .ref cs off => some (fr.put d (.iface t (.ref cs off)), c, h)
  | _ => none
def ifaceX (k : Kd) (cc fz : Bool) (t : Nat) (d : Option Nat) (fr : Fr) (c : Nat) (h : Heap) (a : A) : Option (Fr × Nat × Heap) :=
  if k = .iface then none else if cc = true then if fz = true then frzX t d fr c h a else some (fr.put d (.iface t a), c, h) else none
@[simp] theorem frzX_ptr {t : Nat} {id : Id} : frzX t d fr c h (.ptr id 0) = (h id).map fun cs => (fr.put d (.iface t (.ref (cs.map A.weak1) 0)), c, era h id) := rfl
@[simp] theorem frzX_ref {t o : Nat} {cs : List A} : frzX t d fr c h (.ref cs o) = some (fr.put d (.iface t (.ref cs o)), c, h) := rfl
@[simp] theorem opB_makeInterface {t : Nat} {x : Operand} : opB E cl p tg d (.makeInterface t x) ty fr c h = (evw fr x).bind (ifaceX (kindT E.P t) (E.P.concrete t) (E.frz t) t d fr c h) := by
  simp only [opB, stepA]
  cases hx : evw fr x with
  | none => rfl
  | some a =>
    simp only [Option.bind_some, ifaceX]
    cases hk : kindT E.P t <;> simp <;> split <;> (try rfl) <;> split <;> (try rfl) <;> cases a <;> (try rfl)
@[simp] theorem opB_buildSlice {t len : Nat} {parts : List (Nat × Operand)} : opB E cl p tg d (.buildSlice t len ⟨parts⟩) ty fr c h = match kindT E.P t with
    | .slice e => match szT E.P e, zeroT E.P e with
      | some s, some z => if z.length = s ∧ len * s ≤ 16777216 then
          (parts.mapM (evpK E.feed fr)).bind fun ps => (elemsA s (List.replicate len z) ps).map fun xs => (fr.put d (.slice xs (some (e, s))), c, h)
        else none
      | _, _ => none
    | _ => none := rfl
@[simp] theorem opB_makeSlice {t : Nat} {l n : Operand} : opB E cl p tg d (.makeSlice t l n) ty fr c h = match kindT E.P t, evw fr l, evw fr n with
    | .slice e, some (.int _ l), some (.int _ n) => match szT E.P e, zeroT E.P e, bytesT E.P e with
      | some s, some z, some b => if 0 ≤ l ∧ l ≤ n ∧ (b : Int) * n ≤ 281474976710656 ∧ n ≤ 9223372036854775807 ∧ z.length = s then
          if l = 0 then some (fr.put d (.slice [] (some (e, s))), c, h)
          else if l = n then some (fr.put d (.mslice (e :: c :: p) 0 n.toNat), c + 1, upd h (e :: c :: p) (List.replicate n.toNat z).flatten) else none
        else none
      | _, _, _ => none
    | _, _, _ => none := rfl
@[simp] theorem elemsA_nil {s : Nat} {xs : List (List A)} : elemsA s xs [] = some xs := rfl
@[simp] theorem elemsA_cons {s i : Nat} {v : A} {xs : List (List A)} {rest : List (Nat × A)} : elemsA s xs ((i, v) :: rest) = v.cells.bind fun vs => if vs.length = s then (setAt xs i vs).bind fun xs => elemsA s xs rest else none := by
  simp only [elemsA]
  cases v.cells <;> rfl
@[simp] theorem setAt_eq {α : Type} {xs : List α} {i : Nat} {v : α} : setAt xs i v = if i < xs.length then some (xs.set i v) else none := rfl
@[simp] theorem cells_int {k : IntKind} {n : Int} : (A.int k n).cells = some [.int k n] := rfl
@[simp] theorem cells_bool {b : Bool} : (A.bool b).cells = some [.bool b] := rfl
@[simp] theorem cells_str {s : List UInt8} : (A.str s).cells = some [.str s] := rfl
@[simp] theorem cells_nilp : A.nilp.cells = some [.nilp] := rfl
@[simp] theorem cells_ptr {i : Id} {o : Nat} : (A.ptr i o).cells = some [.ptr i o] := rfl
@[simp] theorem cells_ref {cs : List A} {o : Nat} : (A.ref cs o).cells = some [.ref cs o] := rfl
@[simp] theorem cells_nils : A.nils.cells = some [.nils] := rfl
@[simp] theorem cells_slice {xs : List (List A)} {w : Option (Nat × Nat)} : (A.slice xs w).cells = some [.slice xs w] := rfl
@[simp] theorem cells_mslice {i : Id} {o n : Nat} : (A.mslice i o n).cells = some [.mslice i o n] := rfl
@[simp] theorem cells_nilf : A.nilf.cells = some [.nilf] := rfl
@[simp] theorem cells_fn {f : Nat} {cs : List A} : (A.fn f cs).cells = some [.fn f cs] := rfl
@[simp] theorem cells_nili : A.nili.cells = some [.nili] := rfl
@[simp] theorem cells_iface {t : Nat} {a : A} : (A.iface t a).cells = some [.iface t a] := rfl
@[simp] theorem cells_agg {cs : List A} : (A.agg cs).cells = some cs := rfl
@[simp] theorem stored_int {k : IntKind} {n : Int} : (A.int k n).stored = some [.int k n] := rfl
@[simp] theorem stored_bool {b : Bool} : (A.bool b).stored = some [.bool b] := rfl
@[simp] theorem stored_str {s : List UInt8} : (A.str s).stored = some [.str s] := rfl
@[simp] theorem stored_nilp : A.nilp.stored = some [.nilp] := rfl
@[simp] theorem stored_ptr {i : Id} {o : Nat} : (A.ptr i o).stored = some [.ptr i o] := rfl
@[simp] theorem stored_ref {cs : List A} {o : Nat} : (A.ref cs o).stored = some [.ref cs o] := rfl
@[simp] theorem stored_nils : A.nils.stored = some [.nils] := rfl
@[simp] theorem stored_slice {xs : List (List A)} {w : Option (Nat × Nat)} : (A.slice xs w).stored = some [.slice xs w] := rfl
@[simp] theorem stored_mslice {i : Id} {o n : Nat} : (A.mslice i o n).stored = some [.mslice i o n] := rfl
@[simp] theorem stored_nilf : A.nilf.stored = some [.nilf] := rfl
@[simp] theorem stored_fn {f : Nat} {cs : List A} : (A.fn f cs).stored = some [.fn f cs] := rfl
@[simp] theorem stored_nili : A.nili.stored = some [.nili] := rfl
@[simp] theorem stored_iface {t : Nat} {a : A} : (A.iface t a).stored = some [.iface t a] := rfl
@[simp] theorem stored_agg {cs : List A} : (A.agg cs).stored = some (cs.map A.noOwn1) := rfl

section
variable {P : Program} {t : Nat} {cst : Bool}
section
variable {k : IntKind} {a b : Int}
@[simp] theorem bin_add : binA P .add t cst (.int k a) (.int k b) = some (.int k (k.wrap (a + b))) := by simp [binA, intA]
@[simp] theorem bin_sub : binA P .sub t cst (.int k a) (.int k b) = some (.int k (k.wrap (a - b))) := by simp [binA, intA]
@[simp] theorem bin_mul : binA P .mul t cst (.int k a) (.int k b) = some (.int k (k.wrap (a * b))) := by simp [binA, intA]
@[simp] theorem bin_quo : binA P .quo t cst (.int k a) (.int k b) = if b = 0 then none else some (.int k (k.wrap (a.tdiv b))) := by simp [binA, intA]
@[simp] theorem bin_rem : binA P .rem t cst (.int k a) (.int k b) = if b = 0 then none else some (.int k (a.tmod b)) := by simp [binA, intA]
@[simp] theorem bin_and : binA P .and t cst (.int k a) (.int k b) = some (.int k (bitsA .and k a b)) := by simp [binA, intA]
@[simp] theorem bin_or : binA P .or t cst (.int k a) (.int k b) = some (.int k (bitsA .or k a b)) := by simp [binA, intA]
@[simp] theorem bin_xor : binA P .xor t cst (.int k a) (.int k b) = some (.int k (bitsA .xor k a b)) := by simp [binA, intA]
@[simp] theorem bin_andNot : binA P .andNot t cst (.int k a) (.int k b) = some (.int k (bitsA .andNot k a b)) := by simp [binA, intA]
@[simp] theorem bin_eql : binA P .eql t cst (.int k a) (.int k b) = some (.bool (decide (a = b))) := by simp [binA, intA]; rfl
@[simp] theorem bin_neq : binA P .neq t cst (.int k a) (.int k b) = some (.bool (decide (a ≠ b))) := by simp [binA, intA]; rfl
@[simp] theorem bin_lss : binA P .lss t cst (.int k a) (.int k b) = some (.bool (decide (a < b))) := by simp [binA, intA]
@[simp] theorem bin_leq : binA P .leq t cst (.int k a) (.int k b) = some (.bool (decide (a ≤ b))) := by simp [binA, intA]
@[simp] theorem bin_gtr : binA P .gtr t cst (.int k a) (.int k b) = some (.bool (decide (b < a))) := by simp [binA, intA]
@[simp] theorem bin_geq : binA P .geq t cst (.int k a) (.int k b) = some (.bool (decide (b ≤ a))) := by simp [binA, intA]
@[simp] theorem bin_shl {k' : IntKind} : binA P .shl t cst (.int k a) (.int k' b) = if b < 0 then none else some (.int k (k.wrap (a * 2 ^ (min b.toNat k.bits)))) := rfl
@[simp] theorem bin_shr {k' : IntKind} : binA P .shr t cst (.int k a) (.int k' b) = if b < 0 then none else some (.int k (a.fdiv (2 ^ (min b.toNat k.bits)))) := rfl
end
section
variable {a b : List UInt8}
@[simp] theorem bin_sadd : binA P .add t cst (.str a) (.str b) = if a.length + b.length ≤ maxStr then some (.str (a ++ b)) else none := rfl
@[simp] theorem bin_seql : binA P .eql t cst (.str a) (.str b) = some (.bool (decide (a = b))) := by simp [binA, strA]; rw [Bool.eq_iff_iff]; simp
@[simp] theorem bin_sneq : binA P .neq t cst (.str a) (.str b) = some (.bool (decide (a ≠ b))) := by simp [binA, strA]; rw [Bool.eq_iff_iff]; simp
@[simp] theorem bin_slss : binA P .lss t cst (.str a) (.str b) = some (.bool (Op.bytesLess a b)) := rfl
@[simp] theorem bin_sgtr : binA P .gtr t cst (.str a) (.str b) = some (.bool !(Op.bytesLess a b || a == b)) := rfl
end
@[simp] theorem bin_beql {a b : Bool} : binA P .eql t cst (.bool a) (.bool b) = if kindT P t = .bool then some (.bool (a == b)) else none := rfl
@[simp] theorem bin_bneq {a b : Bool} : binA P .neq t cst (.bool a) (.bool b) = if kindT P t = .bool then some (.bool !(a == b)) else none := rfl
@[simp] theorem bin_aeql {xs ys : List A} : binA P .eql t cst (.agg xs) (.agg ys) = (eqsT P t).bind fun ks => (eqsA ks xs ys).map .bool := rfl
@[simp] theorem bin_aneq {xs ys : List A} : binA P .neq t cst (.agg xs) (.agg ys) = (eqsT P t).bind fun ks => (eqsA ks xs ys).map fun b => .bool !b := rfl
@[simp] theorem eqsA_nil {xs ys : List A} : eqsA [] xs ys = some true := rfl
attribute [simp] eqsA_cons
/-- against nil -/
def nilEq (x : A) : Option Bool := match x with
  | .nili => some true
  | .iface .. => some false
  | .nilp => some true
  | .ptr .. => some false
  | .ref .. => some false
  | .nilf => some true
  | .fn .. => some false
  | .nils => some true
  | .mslice .. => some false
  | .slice (_ :: _) _ => some false
  | _ => none
@[simp] theorem bin_ieql1 : binA P .eql t true .nili .nili = if kindT P t = .iface then some (.bool true) else none := by
  simp only [binA, eqA, A.nilness]; cases kindT P t <;> rfl
@[simp] theorem bin_ieql2 {t' : Nat} {a : A} : binA P .eql t true (.iface t' a) .nili = if kindT P t = .iface then some (.bool false) else none := by
  simp only [binA, eqA, A.nilness]; cases kindT P t <;> rfl
@[simp] theorem bin_ineq1 : binA P .neq t true .nili .nili = if kindT P t = .iface then some (.bool false) else none := by
  simp only [binA, eqA, A.nilness]; cases kindT P t <;> rfl
@[simp] theorem bin_ineq2 {t' : Nat} {a : A} : binA P .neq t true (.iface t' a) .nili = if kindT P t = .iface then some (.bool true) else none := by
  simp only [binA, eqA, A.nilness]; cases kindT P t <;> rfl
end

section
variable {P : Program} {t n : Nat} {cs : List A} {off : Nat}
@[simp] theorem loadX_ptr {id : Id} : loadX P t h (.ptr id off) = (shapeT P t).bind fun q => (h id).bind fun cs => pickCells q.2 cs off q.1 := rfl
@[simp] theorem loadX_ref : loadX P t h (.ref cs off) = (shapeT P t).bind fun q => pickCells q.2 cs off q.1 := rfl
@[simp] theorem loadF_ptr {id : Id} : loadF P t d fr c h (.ptr id off) = (shapeT P t).bind fun q => if q.2 = true then none else (h id).bind fun cs => (cs[off]?).map fun v => (fr.put d v, c, upd h id (cs.set off v.weak1)) := by
  simp only [loadF]
  cases hs : shapeT P t with
  | none => cases h id <;> rfl
  | some q =>
    obtain ⟨n, g⟩ := q
    cases g <;> cases h id <;> rfl
@[simp] theorem storeX_ptr {id : Id} {r : A × Fr} : storeX P t d c h (.ptr id off) r = (szT P t).bind fun n => r.1.stored.bind fun vs => if vs.length = n then (h id).bind fun cs => (splice cs off vs).map fun cs => (r.2.put d .top, c, upd h id cs) else none := by
  simp only [storeX]
  cases szT P t <;> rfl
@[simp] theorem pick_one : pickCells false cs off n = (cs[off]?).map A.noOwn1 := rfl
@[simp] theorem pick_agg : pickCells true cs off n = if off + n ≤ cs.length then some (.agg (((cs.drop off).take n).map A.noOwn1)) else none := rfl
@[simp] theorem splice_eq {vs : List A} : splice cs off vs = if off + vs.length ≤ cs.length then some (cs.take off ++ vs ++ cs.drop (off + vs.length)) else none := rfl
@[simp] theorem upd_same {id : Id} : upd h id cs id = some cs := by simp [upd]
theorem upd_ne {id id' : Id} (hne : id' ≠ id) : upd h id cs id' = h id' := by simp [upd, hne]
@[simp] theorem upd_cons {q : Id} {t t' k k' : Nat} : upd h (t :: k :: q) cs (t' :: k' :: q) = if t' = t ∧ k' = k then some cs else h (t' :: k' :: q) := by
  simp only [upd, List.cons.injEq, and_true]
@[simp] theorem upd_upd {id : Id} {cs' : List A} : upd (upd h id cs) id cs' = upd h id cs' := by
  funext x; simp only [upd]; split <;> rfl
end
end
section
variable {k : Kd}
@[simp] theorem len_str {s : List UInt8} : lenA .str (.str s) = some (.int .i64 s.length) := rfl
@[simp] theorem len_slice {e : Nat} {xs : List (List A)} {w : Option (Nat × Nat)} : lenA (.slice e) (.slice xs w) = some (.int .i64 xs.length) := rfl
@[simp] theorem len_nils {e : Nat} : lenA (.slice e) .nils = some (.int .i64 0) := rfl
@[simp] theorem len_mslice {e : Nat} {id : Id} {o n : Nat} : lenA (.slice e) (.mslice id o n) = some (.int .i64 n) := rfl
@[simp] theorem slice_str {sz : Nat → Option Nat} {s : List UInt8} {lo hi : Option A} : sliceA .str sz (.str s) lo hi = (hiOf s.length hi).bind fun h => (loOf h lo).map fun l => .str ((s.take h).drop l) := rfl
@[simp] theorem slice_slice {sz : Nat → Option Nat} {e : Nat} {xs : List (List A)} {w : Option (Nat × Nat)} {lo hi : Option A} : sliceA (.slice e) sz (.slice xs w) lo hi =
    (sz e).bind fun s => if headLen s xs = true then (hiOf xs.length hi).bind fun h => (loOf h lo).map fun l => .slice ((xs.take h).drop l) none else none := by
  simp only [sliceA]; cases sz e <;> rfl
@[simp] theorem hiOf_none {n : Nat} : hiOf n none = some n := rfl
@[simp] theorem loOf_none {n : Nat} : loOf n none = some 0 := rfl
@[simp] theorem hiOf_int {n : Nat} {k : IntKind} {i : Int} : hiOf n (some (.int k i)) = if 0 ≤ i ∧ i ≤ n then some i.toNat else none := rfl
@[simp] theorem loOf_int {n : Nat} {k : IntKind} {i : Int} : loOf n (some (.int k i)) = if 0 ≤ i ∧ i ≤ n then some i.toNat else none := rfl
@[simp] theorem headLen_nil {s : Nat} : headLen s [] = true := rfl
@[simp] theorem headLen_cons {s : Nat} {x : List A} {xs : List (List A)} : headLen s (x :: xs) = (x.length == s) := rfl
end
section
variable {cs : List A} {pl : List (Nat × Nat)}
@[simp] theorem fillA_nil : fillA pl cs [] = some cs := rfl
@[simp] theorem fillA_cons {i : Nat} {v : A} {rest : List (Nat × A)} : fillA pl cs ((i, v) :: rest) = (pl[i]?).bind fun q => v.cells.bind fun vs => if vs.length = q.2 then (splice cs q.1 vs).bind fun cs => fillA pl cs rest else none := by
  simp only [fillA]
  cases pl[i]? with
  | none => rfl
  | some q => cases v.cells <;> rfl
end
end Go.Ai

/- Calls without a count of steps. -/
namespace Go.Ai

/-- a loop's body, found by its first region -/
def _root_.Go.Code.loopAt (k : Nat) : Code → Option Code
  | .seq a b => match a.loopAt k with | some x => some x | none => b.loopAt k
  | .cond _ a b => match a.loopAt k with | some x => some x | none => b.loopAt k
  | .block _ a => a.loopAt k
  | .loop a => if a.key = k then some a else a.loopAt k
  | _ => none

/-- loops' bodies put behind names -/
def _root_.Go.Code.hide (ls : List (Nat × Code)) : Code → Code
  | .seq a b => .seq (a.hide ls) (b.hide ls)
  | .cond x a b => .cond x (a.hide ls) (b.hide ls)
  | .block i a => .block i (a.hide ls)
  | .loop a => match ls.find? (fun q => q.1 == a.key) with
    | some q => .loop q.2
    | none => .loop (a.hide ls)
  | c => c

@[congr] theorem execW_congr {E : Env} {f : Nat} {p : Id} {code : Code} {fr fr' : Fr} {c c' : Nat} {h h' : Heap} (h1 : fr = fr') (h2 : c = c') (h3 : h = h') : execW E f p code fr c h = execW E f p code fr' c' h' := by rw [h1, h2, h3]
@[congr] theorem runB_congr {E : Env} {cl : Cl} {p : Id} {tg tg' : List Nat} {ds ds' : List (Option Nat)} {os : List Oper} {fr fr' : Fr} {c c' : Nat} {h h' : Heap} (h0 : tg = tg') (h00 : ds = ds') (h1 : fr = fr') (h2 : c = c') (h3 : h = h') : runB E cl p tg ds os fr c h = runB E cl p tg' ds' os fr' c' h' := by rw [h0, h00, h1, h2, h3]
@[congr] theorem opB_congr {E : Env} {cl : Cl} {p : Id} {tg tg' : List Nat} {d : Option Nat} {op : Op} {ty : Nat} {fr fr' : Fr} {c c' : Nat} {h h' : Heap} (h0 : tg = tg') (h1 : fr = fr') (h2 : c = c') (h3 : h = h') : opB E cl p tg d op ty fr c h = opB E cl p tg' d op ty fr' c' h' := by rw [h0, h1, h2, h3]
@[congr] theorem iterW_congr {E : Env} {f : Nat} {p : Id} {L : List Nat} {a : Code} {c0 c0' : Nat} {fr fr' : Fr} {c c' : Nat} {h h' : Heap} (h0 : c0 = c0') (h1 : fr = fr') (h2 : c = c') (h3 : h = h') : iterW E f p L a c0 fr c h = iterW E f p L a c0' fr' c' h' := by rw [h0, h1, h2, h3]

@[simp high] theorem mapM_res_nil {P : Program} {fr : Fr} {h : Heap} : ([] : List ResultVar).mapM (resA P fr h) = some [] := rfl
@[simp high] theorem mapM_res_cons {P : Program} {fr : Fr} {h : Heap} {r : ResultVar} {rs : List ResultVar} : (r :: rs).mapM (resA P fr h) = (resA P fr h r).bind (consX (rs.mapM (resA P fr h))) := by
  simp only [List.mapM_cons]
  cases resA P fr h r with
  | none => rfl
  | some a => cases rs.mapM (resA P fr h) <;> rfl
@[simp] theorem resA_tmp {P : Program} {fr : Fr} {h : Heap} {t : Nat} : resA P fr h (.tmp t) = some (fr t) := rfl
@[simp] theorem resA_cell {P : Program} {fr : Fr} {h : Heap} {t a : Nat} : resA P fr h (.cell a t) = loadX P t h (fr a) := rfl
@[simp] theorem outA_one {a : A} : outA [a] = a := rfl
@[simp] theorem outA_nil : outA [] = .tuple [] := rfl
@[simp] theorem outA_two {a b : A} {l : List A} : outA (a :: b :: l) = .tuple (a :: b :: l) := rfl
@[simp] theorem noOwnR_tuple {l : List A} : (A.tuple l).noOwnR = .tuple (l.map A.noOwn) := rfl
@[simp] theorem noOwnR_int {k : IntKind} {n : Int} : (A.int k n).noOwnR = .int k n := rfl
@[simp] theorem noOwnR_bool {n : Bool} : (A.bool n).noOwnR = .bool n := rfl
@[simp] theorem noOwnR_str {n : List UInt8} : (A.str n).noOwnR = .str n := rfl
@[simp] theorem noOwnR_ptr {i : Id} {o : Nat} : (A.ptr i o).noOwnR = .ptr i o := rfl
@[simp] theorem noOwnR_slice {xs : List (List A)} {w : Option (Nat × Nat)} : (A.slice xs w).noOwnR = .slice xs none := rfl
@[simp] theorem noOwnR_nils : A.nils.noOwnR = .nils := rfl
@[simp] theorem noOwnR_agg {cs : List A} : (A.agg cs).noOwnR = .agg (cs.map A.noOwn1) := rfl
@[simp] theorem weakR_tuple {l : List A} : (A.tuple l).weakR = .tuple (l.map A.weak) := rfl
@[simp] theorem weakR_int {k : IntKind} {n : Int} : (A.int k n).weakR = .int k n := rfl
@[simp] theorem weakR_bool {n : Bool} : (A.bool n).weakR = .bool n := rfl
@[simp] theorem weakR_str {n : List UInt8} : (A.str n).weakR = .str n := rfl
@[simp] theorem weakR_ptr {i : Id} {o : Nat} : (A.ptr i o).weakR = .ptr i o := rfl
@[simp] theorem weakR_slice {xs : List (List A)} {w : Option (Nat × Nat)} : (A.slice xs w).weakR = .slice xs none := rfl
@[simp] theorem weakR_nils : A.nils.weakR = .slice [] none := rfl
@[simp] theorem weakR_nili : A.nili.weakR = .nili := rfl
@[simp] theorem weakR_iface {t : Nat} {a : A} : (A.iface t a).weakR = .iface t a := rfl
@[simp] theorem weakR_agg {cs : List A} : (A.agg cs).weakR = .agg (cs.map A.weak1) := rfl
@[simp] theorem trim_nil {fr : Fr} : trim [] fr = bot := rfl
@[simp] theorem trim_cons {t : Nat} {ts : List Nat} {fr : Fr} : trim (t :: ts) fr = (trim ts fr).set t (fr t) := rfl
@[simp] theorem bot_apply {t : Nat} : bot t = .top := rfl

section
variable {E : Env} {p : Id} {fr : Fr} {c : Nat} {h : Heap}
/-- what a call answers, its statements gone through -/
def resX (P : Program) (k keep : Bool) (p : Id) (rs : List ResultVar) : Ex × Fr × Nat × Heap → Option (A × Heap)
  | (.exit _, _) => none
  | (_, fr, _, h) => (rs.mapM (resA P fr h)).map fun vs => ((outA vs).outK k, if keep = true then h else dropFrom p 0 h)
@[simp] theorem resX_ret {P : Program} {k keep : Bool} {rs : List ResultVar} : resX P k keep p rs (.ret, fr, c, h) = (rs.mapM (resA P fr h)).map fun vs => ((outA vs).outK k, if keep = true then h else dropFrom p 0 h) := rfl
@[simp] theorem resX_normal {P : Program} {k keep : Bool} {rs : List ResultVar} : resX P k keep p rs (.normal, fr, c, h) = (rs.mapM (resA P fr h)).map fun vs => ((outA vs).outK k, if keep = true then h else dropFrom p 0 h) := rfl
/-- one round of a loop, the body in two spellings: one to go into, one to come back to -/
theorem iterW_eq2 {E : Env} {f : Nat} {p : Id} {L : List Nat} {a b : Code} {c0 : Nat} {fr : Fr} {c : Nat} {h : Heap} (hab : a = b) : iterW E f p L a c0 fr c h = (execW E f p b fr c h).bind (loopX E f p L a c0) := by
  subst hab; exact iterW_eq
theorem callW_eq {f : Nat} {args : List A} (fn : Func) {code : Code} {rs : List ResultVar} {keep : Bool} (h1 : E.prim f = none) (h2 : E.P.funcs[f]? = some fn) (h3 : fn.body = some code) (h4 : fn.results.toList = rs) (h5 : E.keep f = keep) :
    callW E p f args h = (execW E f p code (initFr args) 0 h).bind (resX E.P E.feed keep p rs) := opt_ext fun r => by
  have key : ∀ s : Ex × Fr × Nat × Heap, (match s.1 with
        | .exit _ => none
        | _ => (fn.results.toList.mapM (resA E.P s.2.1 s.2.2.2)).map fun vs => ((outA vs).outK E.feed, if E.keep f = true then s.2.2.2 else dropFrom p 0 s.2.2.2)) = resX E.P E.feed keep p rs s := by
    rintro ⟨e, fr, c, h⟩
    rw [h4, h5]
    cases e <;> rfl
  rw [callW_some]
  simp only [Option.bind_eq_some_iff]
  constructor
  · rintro ⟨n, hn⟩
    cases n with
    | zero => simp [call] at hn
    | succ n =>
      simp only [call, h1, h2, h3, Option.bind_some, Option.bind_eq_some_iff] at hn
      obtain ⟨s, hs, hr⟩ := hn
      refine ⟨s, execW_some.2 ⟨n, exec_mono (call_le_W n) (Nat.le_refl n) code hs⟩, ?_⟩
      rw [← key]; exact hr
  · rintro ⟨s, hs, hr⟩
    obtain ⟨m, hs⟩ := execW_some.1 hs
    -- so many steps do for all the calls
    have cont : ∃ n, m ≤ n ∧ exec E (call E n) f p n code (initFr args) 0 h = some s := exec_cont code hs
    obtain ⟨n, _, hn⟩ := cont
    refine ⟨n + 1, ?_⟩
    simp only [call, h1, h2, h3, Option.bind_some, Option.bind_eq_some_iff]
    exact ⟨s, hn, by rw [← key] at hr; exact hr⟩
end
end Go.Ai

/- Regions in any order, step by step: equations. -/
namespace Go.Ai

/-- where a load reads -/
def locX (a : Option A) (s : Option (Nat × Bool)) : Option (Id × Nat × Nat) := match a, s with
  | some (.ptr id off), some (n, g) => some (id, off, if g then n else 1)
  | _, _ => none
def locOp (P : Program) (fr : Fr) : Op → Option (Id × Nat × Nat)
  | .load t x => locX (ev fr x) (shapeT P t)
  | _ => none
theorem loadAt_eq (P : Program) (fr : Fr) (o : Oper) : loadAt P fr o = locOp P fr o.op := by
  obtain ⟨d, op, ty, pos, after, g⟩ := o
  cases op <;> rfl
@[simp] theorem locOp_load {P : Program} {fr : Fr} {t : Nat} {x : Operand} : locOp P fr (.load t x) = locX (ev fr x) (shapeT P t) := rfl
@[simp] theorem locX_ptr {id : Id} {off n : Nat} {g : Bool} : locX (some (.ptr id off)) (some (n, g)) = some (id, off, if g then n else 1) := rfl
@[simp] theorem locX_ref {cs : List A} {off : Nat} {s : Option (Nat × Bool)} : locX (some (.ref cs off)) s = none := by cases s <;> rfl
def lsX (b : Bool) (i : Nat) (q : Option (Id × Nat × Nat)) (ls : List (Nat × Id × Nat × Nat)) : List (Nat × Id × Nat × Nat) := match b, q with
  | true, some q => (i, q) :: ls
  | _, _ => ls
@[simp] theorem lsX_some {i : Nat} {q : Id × Nat × Nat} {ls : List (Nat × Id × Nat × Nat)} : lsX true i (some q) ls = (i, q) :: ls := rfl
@[simp] theorem lsX_none {i : Nat} {b : Bool} {ls : List (Nat × Id × Nat × Nat)} : lsX b i none ls = ls := by cases b <;> rfl
@[simp] theorem lsX_false {i : Nat} {q : Option (Id × Nat × Nat)} {ls : List (Nat × Id × Nat × Nat)} : lsX false i q ls = ls := rfl
def hsX (b : Bool) (i : Nat) (h h' : Heap) (hs : List (Nat × Heap × Heap)) : List (Nat × Heap × Heap) := match b with
  | true => (i, h, h') :: hs
  | false => hs
@[simp] theorem hsX_true {i : Nat} {h h' : Heap} {hs : List (Nat × Heap × Heap)} : hsX true i h h' hs = (i, h, h') :: hs := rfl
@[simp] theorem hsX_false {i : Nat} {h h' : Heap} {hs : List (Nat × Heap × Heap)} : hsX false i h h' hs = hs := rfl

/-- the look at the end -/
def chkD (ps : List (Nat × Nat)) (ls : List (Nat × Id × Nat × Nat)) (hs : List (Nat × Heap × Heap)) : Bool :=
  ps.all fun q => ls.all fun l => hs.all fun g => !(l.1 == q.1 && g.1 == q.2) || sameAt g.2.1 g.2.2 l.2
theorem beq_refl_all : (∀ a : A, A.beq a a = true) := by
  intro a
  exact A.rec (motive_1 := fun a => A.beq a a = true) (motive_2 := fun l => A.beqL l l = true) (motive_3 := fun l => A.beqS l l = true)
    (by simp [A.beq]) (by intros; simp [A.beq]) (by intros; simp [A.beq]) (by intros; simp [A.beq]) (by simp [A.beq]) (by intros; simp [A.beq]) (by intro _ _ h; simp [A.beq, h]) (by simp [A.beq])
    (by intro _ _ h; simp [A.beq, h]) (by intros; simp [A.beq]) (by simp [A.beq]) (by intro _ _ h; simp [A.beq, h]) (by simp [A.beq]) (by intro _ _ h; simp [A.beq, h]) (by intro _ h; simp [A.beq, h]) (by intro _ h; simp [A.beq, h])
    (by simp [A.beqL]) (by intro _ _ h1 h2; simp [A.beqL, h1, h2]) (by simp [A.beqS]) (by intro _ _ h1 h2; simp [A.beqS, h1, h2]) a
theorem beqL_refl : ∀ l : List A, A.beqL l l = true
  | [] => by simp [A.beqL]
  | a :: l => by simp [A.beqL, beq_refl_all a, beqL_refl l]
@[simp] theorem sameAt_eq {h h' : Heap} {id : Id} {r : Nat × Nat} (he : h id = h' id) : sameAt h h' (id, r) = true := by
  simp only [sameAt, he]
  cases h' id with
  | none => rfl
  | some cs => simp [beqL_refl]

section
variable (E : Env) (cl : Id → Nat → List A → Heap → Option (A × Heap)) (p : Id) (tg : List Nat) (ds : List (Option Nat)) (ps : List (Nat × Nat))
def runDB : List Oper → Nat → List (Nat × Id × Nat × Nat) → List (Nat × Heap × Heap) → Fr → Nat → Heap → Option (Fr × Nat × Heap)
  | [], _, ls, hs, fr, c, h => if chkD ps ls hs = true then some (fr, c, h) else none
  | o :: os, i, ls, hs, fr, c, h => match guardB ds o.guard fr with
    | some true => (opB E cl p tg o.dst o.op o.type fr c h).bind fun r => runDB os (i + 1) (lsX (ps.any (·.1 == i)) i (locOp E.P fr o.op) ls) (hsX (ps.any (·.2 == i)) i h r.2.2 hs) r.1 r.2.1 r.2.2
    | some false => runDB os (i + 1) ls hs (fr.put o.dst (.tuple [])) c h
    | none => none
end
theorem runDraw_eq (E : Env) (cl : Id → Nat → List A → Heap → Option (A × Heap)) (p : Id) (all : List Oper) (ps : List (Nat × Nat)) : ∀ (os : List Oper) (i : Nat) (ls : List (Nat × Id × Nat × Nat)) (hs : List (Nat × Heap × Heap)) (fr : Fr) (c : Nat) (h : Heap),
    runDraw E cl p all ps os i ls hs fr c h = runDB E cl p (tgK E.feed (appT all)) (dsts all) ps os i ls hs fr c h
  | [], _, _, _, _, _, _ => rfl
  | o :: os, i, ls, hs, fr, c, h => by
    have ih := runDraw_eq E cl p all ps os
    simp only [runDraw, runDB, guardA_eq]
    have hstep : stepA E cl p all o fr c h = opB E cl p (tgK E.feed (appT all)) o.dst o.op o.type fr c h := by
      obtain ⟨d, op, ty, pos, after, g⟩ := o
      exact stepA_pos E cl p all d op ty pos g after fr c h
    have h2 : ∀ h' hs, (if ps.any (·.2 == i) then (i, h, h') :: hs else hs) = hsX (ps.any (·.2 == i)) i h h' hs := by
      intro h' hs
      cases ps.any (·.2 == i) <;> rfl
    simp only [h2, hstep, ih]
    rw [← loadAt_eq]
    cases loadAt E.P fr o with
    | none => simp only [lsX_none]; rfl
    | some q =>
      cases ps.any (·.1 == i) <;> rfl
section
variable {E : Env} {cl : Id → Nat → List A → Heap → Option (A × Heap)} {p : Id} {tg : List Nat} {ds : List (Option Nat)} {ps : List (Nat × Nat)} {ls : List (Nat × Id × Nat × Nat)} {hs : List (Nat × Heap × Heap)} {i c : Nat} {fr : Fr} {h : Heap}
@[congr] theorem runDB_congr {tg' : List Nat} {ds' : List (Option Nat)} {os : List Oper} {i' : Nat} {ls' : List (Nat × Id × Nat × Nat)} {hs' : List (Nat × Heap × Heap)} {fr' : Fr} {c' : Nat} {h' : Heap} (h0 : tg = tg') (h00 : ds = ds') (h3 : i = i') (h4 : ls = ls') (h5 : hs = hs') (h6 : fr = fr') (h7 : c = c') (h8 : h = h') :
    runDB E cl p tg ds ps os i ls hs fr c h = runDB E cl p tg' ds' ps os i' ls' hs' fr' c' h' := by rw [h0, h00, h3, h4, h5, h6, h7, h8]
@[simp] theorem drawX_cons {ops : List Oper} {q : Nat × Nat} {qs : List (Nat × Nat)} : drawX E p ops fr c h (some (q :: qs)) = runDB E (callW E) p (tgK E.feed (appT ops)) (dsts ops) (q :: qs) ops 0 [] [] fr c h := runDraw_eq E (callW E) p ops (q :: qs) ops 0 [] [] fr c h
@[simp] theorem runDB_nil : runDB E cl p tg ds ps [] i ls hs fr c h = if chkD ps ls hs = true then some (fr, c, h) else none := rfl
/-- what follows an operation -/
def nextD (E : Env) (cl : Id → Nat → List A → Heap → Option (A × Heap)) (p : Id) (tg : List Nat) (ds : List (Option Nat)) (ps : List (Nat × Nat)) (os : List Oper) (i : Nat) (ls : List (Nat × Id × Nat × Nat)) (hs : List (Nat × Heap × Heap)) (l : Option (Id × Nat × Nat)) (h : Heap) (r : Fr × Nat × Heap) : Option (Fr × Nat × Heap) :=
  runDB E cl p tg ds ps os (i + 1) (lsX (ps.any (·.1 == i)) i l ls) (hsX (ps.any (·.2 == i)) i h r.2.2 hs) r.1 r.2.1 r.2.2
@[simp] theorem nextD_mk {os : List Oper} {l : Option (Id × Nat × Nat)} {h0 : Heap} : nextD E cl p tg ds ps os i ls hs l h0 (fr, c, h) = runDB E cl p tg ds ps os (i + 1) (lsX (ps.any (·.1 == i)) i l ls) (hsX (ps.any (·.2 == i)) i h0 h hs) fr c h := rfl
@[simp] theorem runDB_cons {d : Option Nat} {op : Op} {ty : Nat} {pos : String} {after : Array Edge} {os : List Oper} : runDB E cl p tg ds ps (⟨d, op, ty, pos, after, none⟩ :: os) i ls hs fr c h =
    (opB E cl p tg d op ty fr c h).bind (nextD E cl p tg ds ps os i ls hs (locOp E.P fr op) h) := rfl
@[simp] theorem runDB_guard {d : Option Nat} {op : Op} {ty : Nat} {pos : String} {after : Array Edge} {j : Nat} {w : Bool} {os : List Oper} : runDB E cl p tg ds ps (⟨d, op, ty, pos, after, some (j, w)⟩ :: os) i ls hs fr c h =
    guardX w (((ds[j]?).bind id).map fr) ((opB E cl p tg d op ty fr c h).bind (nextD E cl p tg ds ps os i ls hs (locOp E.P fr op) h)) (runDB E cl p tg ds ps os (i + 1) ls hs (fr.put d (.tuple [])) c h) := by
  simp only [runDB, guardX, guardB]
  generalize (((ds[j]?).bind id).map fr).bind (wantA w) = g
  cases g with
  | none => rfl
  | some b => cases b <;> rfl
end
attribute [simp] chkD
end Go.Ai

/- Lists that grow from nil; heaps without what a call made; small integers. -/
namespace Go.Ai

theorem some4 {e : Ex} {fr : Fr} {c : Nat} {h h' : Heap} (hh : h = h') : (some (e, fr, c, h) : Option (Ex × Fr × Nat × Heap)) = some (e, fr, c, h') := by rw [hh]
theorem nat0 : ((0 : Nat) : Int) = 0 := rfl
/-- a list that has grown from nil -/
def growing (s : Nat × Nat) (xs : List (List A)) : A := match xs with | [] => .nils | _ => .slice xs (some s)
@[simp] theorem growing_nil {s : Nat × Nat} : growing s [] = .nils := rfl
@[simp] theorem growA_growing {e s : Nat} {xs : List (List A)} : growA e s (growing (e, s) xs) = some xs := by cases xs <;> simp [growing]
@[simp] theorem weak_growing {s : Nat × Nat} {xs : List (List A)} : (growing s xs).weak = .slice xs none := by cases xs <;> rfl
@[simp] theorem weak1_growing {s : Nat × Nat} {xs : List (List A)} : (growing s xs).weak1 = .slice xs none := by cases xs <;> rfl
@[simp] theorem weakR_growing {s : Nat × Nat} {xs : List (List A)} : (growing s xs).weakR = .slice xs none := by cases xs <;> rfl
theorem slice_growing {s : Nat × Nat} {xs : List (List A)} {y : List A} : A.slice (xs ++ [y]) (some s) = growing s (xs ++ [y]) := by cases xs <;> rfl
theorem slice_growing' {s : Nat × Nat} {xs ys : List (List A)} (h : ys ≠ []) : A.slice (xs ++ ys) (some s) = growing s (xs ++ ys) := by
  cases hx : xs ++ ys with
  | nil => simp at hx; exact absurd hx.2 h
  | cons z zs => rfl
@[simp] theorem length_one_growing {s : Nat × Nat} {xs : List (List A)} : (growing s xs).cells = some [growing s xs] := by cases xs <;> rfl
@[simp] theorem stored_growing {s : Nat × Nat} {xs : List (List A)} : (growing s xs).stored = some [growing s xs] := by cases xs <;> rfl
theorem noOwn_growing {s : Nat × Nat} {xs : List (List A)} (h : xs ≠ []) : (growing s xs).noOwn = .slice xs none := by cases xs with | nil => exact absurd rfl h | cons => rfl

/-- a list without a right to grow; nil stays nil -/
def soft (xs : List (List A)) : A := match xs with | [] => .nils | _ => .slice xs none
@[simp] theorem soft_nil : soft [] = .nils := rfl
@[simp] theorem noOwn1_growing {s : Nat × Nat} {xs : List (List A)} : (growing s xs).noOwn1 = soft xs := by cases xs <;> rfl
@[simp] theorem noOwnA_growing {s : Nat × Nat} {xs : List (List A)} : (growing s xs).noOwn = soft xs := by cases xs <;> rfl
@[simp] theorem noOwn1_soft {xs : List (List A)} : (soft xs).noOwn1 = soft xs := by cases xs <;> rfl
@[simp] theorem noOwnA_soft {xs : List (List A)} : (soft xs).noOwn = soft xs := by cases xs <;> rfl
@[simp] theorem weak1_soft {xs : List (List A)} : (soft xs).weak1 = .slice xs none := by cases xs <;> rfl
@[simp] theorem weak_soft {xs : List (List A)} : (soft xs).weak = .slice xs none := by cases xs <;> rfl
@[simp] theorem weakR_soft {xs : List (List A)} : (soft xs).weakR = .slice xs none := by cases xs <;> rfl
@[simp] theorem cells_soft {xs : List (List A)} : (soft xs).cells = some [soft xs] := by cases xs <;> rfl
@[simp] theorem stored_soft {xs : List (List A)} : (soft xs).stored = some [soft xs] := by cases xs <;> rfl
@[simp] theorem drop_drop_self {p : Id} {c : Nat} {h : Heap} : dropFrom p c (dropFrom p c h) = dropFrom p c h := by
  funext i; simp only [dropFrom]; cases underB p c i <;> rfl
theorem drop_drop {p : Id} {c c' : Nat} {h : Heap} (hc : c ≤ c') : dropFrom p c (dropFrom p c' h) = dropFrom p c h := by
  funext i
  simp only [dropFrom]
  cases h1 : underB p c i with
  | true => rfl
  | false =>
    cases h2 : underB p c' i with
    | true => rw [underB_mono hc h2] at h1; cases h1
    | false => rfl
@[simp] theorem drop0_drop {p : Id} {c : Nat} {h : Heap} : dropFrom p 0 (dropFrom p c h) = dropFrom p 0 h := drop_drop (Nat.zero_le c)
@[simp] theorem drop_drop_cons {p : Id} {c k : Nat} {h : Heap} (hc : c ≤ k) : dropFrom p c (dropFrom (k :: p) 0 h) = dropFrom p c h := by
  funext i
  simp only [dropFrom]
  cases h1 : underB p c i with
  | true => rfl
  | false =>
    cases h2 : underB (k :: p) 0 i with
    | true => rw [underB_mono hc (underB_of_cons h2)] at h1; cases h1
    | false => rfl
@[simp] theorem drop0_drop_cons {p : Id} {k : Nat} {h : Heap} : dropFrom p 0 (dropFrom (k :: p) 0 h) = dropFrom p 0 h := drop_drop_cons (Nat.zero_le k)
@[simp] theorem drop_upd {p : Id} {c k t : Nat} {h : Heap} {cs : List A} (hc : c ≤ k) : dropFrom p c (upd h (t :: k :: p) cs) = dropFrom p c h := by
  funext i
  simp only [dropFrom, upd]
  by_cases e : i = t :: k :: p
  · subst e
    rw [underB_of_suffix hc (List.suffix_cons _ _)]; rfl
  · rw [if_neg e]
@[simp] theorem drop0_upd {p : Id} {k t : Nat} {h : Heap} {cs : List A} : dropFrom p 0 (upd h (t :: k :: p) cs) = dropFrom p 0 h := drop_upd (Nat.zero_le k)

attribute [simp] ifaceX
@[simp] theorem isConst_tmp {t : Nat} : isConst (.tmp t) = false := rfl
@[simp] theorem isConst_const {v : Value} : isConst (.const v) = true := rfl
@[simp] theorem isConst_func {f : Nat} : isConst (.func f) = false := rfl
@[simp] theorem drop_era {p : Id} {c k t : Nat} {h : Heap} (hc : c ≤ k) : dropFrom p c (era h (t :: k :: p)) = dropFrom p c h := by
  funext i
  simp only [dropFrom, era]
  by_cases e : i = t :: k :: p
  · subst e
    rw [underB_of_suffix hc (List.suffix_cons _ _)]; rfl
  · rw [if_neg e]
@[simp] theorem drop0_era {p : Id} {k t : Nat} {h : Heap} : dropFrom p 0 (era h (t :: k :: p)) = dropFrom p 0 h := drop_era (Nat.zero_le k)
theorem drop_other {p i : Id} {c : Nat} {h : Heap} (hu : underB p c i = false) : dropFrom p c h i = h i := by simp [dropFrom, hu]
@[simp] theorem underB_sib {p : Id} {t j k : Nat} : underB (k :: p) 0 (t :: j :: p) = decide (j = k) := by
  have h1 : underB (k :: p) 0 p = false := by
    cases h : underB (k :: p) 0 p with
    | false => rfl
    | true => have := underB_length h; simp at this; omega
  have h2 : ¬ p = k :: p := fun e => by have := congrArg List.length e; simp at this
  simp [underB, h1, h2]
@[simp] theorem drop_sib {p : Id} {t j k : Nat} {h : Heap} : dropFrom (k :: p) 0 h (t :: j :: p) = if j = k then none else h (t :: j :: p) := by
  simp only [dropFrom, underB_sib]
  by_cases e : j = k <;> simp [e]

@[simp] theorem underB_own {p : Id} {t k c : Nat} : underB p c (t :: k :: p) = decide (c ≤ k) := by
  have h1 : underB p c p = false := underB_self p c
  have h2 : ¬ k :: p = p := fun e => by have := congrArg List.length e; simp at this
  simp [underB, h1, h2]
@[simp] theorem drop_own {p : Id} {t k c : Nat} {h : Heap} : dropFrom p c h (t :: k :: p) = if c ≤ k then none else h (t :: k :: p) := by
  simp only [dropFrom, underB_own]
  by_cases e : c ≤ k <;> simp [e]

theorem wrap_i64' {n : Int} (h1 : -9223372036854775808 ≤ n) (h2 : n ≤ 9223372036854775807) : IntKind.i64.wrap n = n := by
  simp [IntKind.wrap, IntKind.bits, IntKind.signed]; omega
theorem wrap_succ {j n : Nat} (h : j < n) (hn : n ≤ maxStr) : IntKind.i64.wrap ((j : Int) + 1) = (j : Int) + 1 := by
  rw [wrap_i64' (by omega) (by unfold maxStr at hn; omega)]
@[simp] theorem bytesA_nil : bytesA [] = [] := rfl
theorem drop_facts {α : Type} {l : List α} {j : Nat} {x : α} {xs : List α} (h : l.drop j = x :: xs) : j < l.length ∧ l[j]? = some x ∧ l.drop (j + 1) = xs := by
  have hlt : j < l.length := by
    rcases Nat.lt_or_ge j l.length with h' | h'
    · exact h'
    · rw [List.drop_eq_nil_of_le h'] at h; cases h
  refine ⟨hlt, ?_, ?_⟩
  · have := congrArg (fun l => l[0]?) h
    simpa using this
  · rw [← List.drop_drop, h]; rfl
theorem drop_end {α : Type} {l : List α} {j : Nat} (h : l.drop j = []) : ¬ (j : Int) < l.length := by
  have := congrArg List.length h
  simp at this; omega
theorem drop_lt {α : Type} {l : List α} {j : Nat} {x : α} {xs : List α} (h : l.drop j = x :: xs) : (j : Int) < l.length := by
  have := (drop_facts h).1; omega

theorem wrap_id {k : IntKind} {n : Int} (h1 : k.min ≤ n) (h2 : n ≤ k.max) : k.wrap n = n := by
  cases k <;> simp [IntKind.wrap, IntKind.min, IntKind.max, IntKind.bits, IntKind.signed] at * <;> omega
theorem wrap_i64 {n : Int} (h1 : -9223372036854775808 ≤ n) (h2 : n ≤ 9223372036854775807) : IntKind.i64.wrap n = n := wrap_id h1 h2
theorem wrap_u64 {n : Int} (h1 : 0 ≤ n) (h2 : n ≤ 18446744073709551615) : IntKind.u64.wrap n = n := wrap_id h1 h2
theorem wrap_u32 {n : Int} (h1 : 0 ≤ n) (h2 : n ≤ 4294967295) : IntKind.u32.wrap n = n := wrap_id h1 h2
theorem wrap_u8 {n : Int} (h1 : 0 ≤ n) (h2 : n ≤ 255) : IntKind.u8.wrap n = n := wrap_id h1 h2
theorem wrap_u8_nat (n : Nat) : IntKind.u8.wrap n = ((n % 256 : Nat) : Int) := by
  simp [IntKind.wrap, IntKind.bits, IntKind.signed]
theorem wrap_u64_nat (n : Nat) : IntKind.u64.wrap n = ((n % 18446744073709551616 : Nat) : Int) := by
  simp [IntKind.wrap, IntKind.bits, IntKind.signed]
theorem or128 (m : Nat) (h : m < 256) : bitsA .or .u8 (m : Int) 128 = ((m % 128 + 128 : Nat) : Int) := by
  have : ∀ m : Fin 256, bitsA .or .u8 (m.val : Int) 128 = ((m.val % 128 + 128 : Nat) : Int) := by decide +kernel
  exact this ⟨m, h⟩
theorem fdiv_nat (n k : Nat) : Int.fdiv (n : Int) (k : Int) = ((n / k : Nat) : Int) := by
  rw [Int.fdiv_eq_ediv_of_nonneg _ (Int.natCast_nonneg k)]; rfl
theorem fdiv_128 (n : Nat) : Int.fdiv (n : Int) 128 = ((n / 128 : Nat) : Int) := fdiv_nat n 128
theorem bytes_growing {e : Nat} {bs : List UInt8} {b : UInt8} : A.slice (bytesA (bs ++ [b])) (some (e, 1)) = growing (e, 1) (bytesA (bs ++ [b])) := by cases bs <;> rfl
theorem bytesA_one {v : Int} {b : UInt8} (h : v = b.toNat) : [[A.int .u8 v]] = bytesA [b] := by rw [h]; rfl
end Go.Ai

/- What is asked of a program, as one check. -/
namespace Go.Ai

def dstsB (nt : Nat) (ops : List Oper) : Bool := ops.all fun o => match o.dst with | some x => decide (x < nt) | none => true
def goodB (E : Env) (f nt : Nat) : Code → Bool
  | .region id ops draw => dstsB nt ops.toList && (!draw || match E.draw f id with | some ps => drawChk E ops ps | none => true)
  | .seq a b => goodB E f nt a && goodB E f nt b
  | .cond _ a b => goodB E f nt a && goodB E f nt b
  | .block _ a => goodB E f nt a
  | .loop a => goodB E f nt a
  | _ => true
def funcB (E : Env) (f : Nat) (fn : Func) : Bool := !(fn.name == "runtime.NumGoroutine") && match fn.body with | some code => goodB E f fn.ntmps code | none => true
def funcsB (E : Env) : Nat → List Func → Bool
  | _, [] => true
  | f, fn :: fs => funcB E f fn && funcsB E (f + 1) fs
def envB (E : Env) : Bool := E.P.follows .mixedOrders && funcsB E 0 E.P.funcs.toList

theorem goodB_ok {E : Env} {B : Nat} {w0 : World} (hf : E.P.follows .mixedOrders = true) {f nt : Nat} : ∀ {code : Code}, goodB E f nt code = true → Code.Good E B w0 f nt code := by
  intro code
  induction code with
  | region id ops draw =>
    intro h
    simp only [goodB, Bool.and_eq_true, Bool.or_eq_true, Bool.not_eq_true'] at h
    refine ⟨fun o ho x hx => ?_, fun hd ps hps => ?_⟩
    · have := h.1
      simp only [dstsB, List.all_eq_true] at this
      have := this o ho
      rw [hx] at this
      simpa using this
    · rcases h.2 with h2 | h2
      · rw [hd] at h2; cases h2
      · rw [hps] at h2; exact drawn_ok hf h2
  | seq a b iha ihb => intro h; simp only [goodB, Bool.and_eq_true] at h; exact ⟨iha h.1, ihb h.2⟩
  | cond x a b iha ihb => intro h; simp only [goodB, Bool.and_eq_true] at h; exact ⟨iha h.1, ihb h.2⟩
  | block id a iha => intro h; exact iha h
  | loop a iha => intro h; exact iha h
  | _ => intro _; trivial

theorem funcsB_ok {E : Env} : ∀ {fs : List Func} {f : Nat}, funcsB E f fs = true → ∀ (k : Nat) (fn : Func), fs[k]? = some fn → funcB E (f + k) fn = true
  | [], _, _, _, _, hk => by simp at hk
  | fn :: fs, f, h, k, fn', hk => by
    simp only [funcsB, Bool.and_eq_true] at h
    cases k with
    | zero => simp at hk; subst hk; exact h.1
    | succ k =>
      have := funcsB_ok h.2 k fn' (by simpa using hk)
      rwa [show f + 1 + k = f + (k + 1) by omega] at this

theorem env_ok {E : Env} {B : Nat} {w0 : World} (h : envB E = true) (hd : ∀ f g, E.prim f = some g → PrimDom g) (hp : ∀ f g, E.prim f = some g → PrimOK E.P B w0 f g) : EnvOK E B w0 := by
  simp only [envB, Bool.and_eq_true] at h
  refine ⟨hd, hp, fun f fn hf => ?_, fun f fn code hf hb => ?_⟩
  · have := funcsB_ok h.2 f fn (by rw [Array.getElem?_toList]; exact hf)
    simp only [funcB, Bool.and_eq_true, Bool.not_eq_true'] at this
    exact this.1
  · have := funcsB_ok h.2 f fn (by rw [Array.getElem?_toList]; exact hf)
    simp only [funcB, Bool.and_eq_true, hb, Nat.zero_add] at this
    exact goodB_ok h.1 this.2
end Go.Ai

/- strings.Builder: the evaluator's answers are the model's. -/
namespace Go.Ai
open Go.RowKit

theorem V.ptr_inv {G : Ghost} {id : Id} {off : Nat} {z : Value} (h : V G (.ptr id off) z) : ∃ b o, G.m id = some (b, o) ∧ z = .pointer (some ⟨b, o + off, none⟩) := by
  cases h with
  | ptr hm => exact ⟨_, _, hm, rfl⟩
theorem V.nilp_inv {G : Ghost} {z : Value} (h : V G .nilp z) : z = .pointer none := by cases h; rfl

theorem upd_self {h : Heap} {id : Id} {cs : List A} (he : h id = some cs) : upd h id cs = h := by
  funext i; simp only [upd]; split
  · rename_i e; rw [e, he]
  · rfl

theorem builderCheck_ok {P : Program} {B : Nat} {w0 : World} {f : Nat} {tys : List Nat} (hen : Enters P f)
    (hu : ∀ (b : Nat) (w : World), w.cell? ⟨b, 0, none⟩ = some (.pointer (some ⟨b, 0, none⟩)) → Calls P f #[.pointer (some ⟨b, 0, none⟩)] w fun e w' => e = .returned (.tuple #[]) ∧ w' = w)
    (hf : ∀ (b : Nat) (w : World) (t : Nat), tys.contains t = true → w.cell? ⟨b, 0, none⟩ = some (.pointer none) → w.shape? b = some (t, 2) → w.frozen? ⟨b, 0, none⟩ = false →
      Calls P f #[.pointer (some ⟨b, 0, none⟩)] w fun e w' => e = .returned (.tuple #[]) ∧ w' = w.setCell ⟨b, 0, none⟩ (.pointer (some ⟨b, 0, none⟩))) : PrimOK P B w0 f (builderCheck tys) := by
  intro q args h v h' hx
  unfold builderCheck at hx
  split at hx
  · rename_i id
    simp only [Option.bind_eq_some_iff] at hx
    obtain ⟨cs, hcs, hx⟩ := hx
    split at hx
    · rename_i a b t rest
      split at hx
      · rename_i hc
        simp only [Bool.and_eq_true] at hc
        simp only [Option.some.injEq, Prod.mk.injEq] at hx
        obtain ⟨rfl, rfl⟩ := hx
        refine ⟨hen, (by intro xs s e; cases e), fun G O w vs _ hvs hr hfresh => ?_⟩
        cases hvs with
        | cons hv hrest =>
          cases hrest
          obtain ⟨b0, o0, hm, rfl⟩ := hv.ptr_inv
          obtain ⟨rfl, t', ht, n0, hsh, hn2⟩ := hr.typ _ _ _ _ hcs hm
          obtain rfl := hn2 rfl
          simp only [List.head?_cons, Option.some.injEq] at ht
          subst ht
          obtain ⟨b1, o1, hm1, ho⟩ := hr.obj _ _ hcs
          rw [hm] at hm1; cases hm1
          obtain ⟨g1, g2, v0, g3, g4, g5, g6⟩ := ho 0 a rfl
          simp only [Nat.add_zero] at g1 g2 g3
          cases a with
          | nilp =>
            have := g5.nilp_inv; subst this
            refine (hf b0 w t hc.1 g3 (shp_shape hsh) g2).mono ?_
            rintro e w' ⟨rfl, rfl⟩
            have hspl : splice [.nilp, b] 0 [.ptr (t :: rest) 0] = some [.ptr (t :: rest) 0, b] := rfl
            have hw := hr.write (us := [.pointer (some ⟨b0, 0, none⟩)]) hm hcs hspl (.cons (.ptr (o := 0) hm) .nil) (by simp [Value.oneCell']) (fun j x u hj _ => by
              cases j with
              | zero => simp at hj; subst hj; exact Room.free (by intro xs s e; cases e)
              | succ j => simp at hj)
            refine ⟨_, G, O, rfl, .tuple .nil, hw.1, ⟨G.le_refl, Keeps.write (S := fun l => l = .obj (t :: rest)) (vs := [.pointer (some ⟨b0, 0, none⟩)]) (b := b0) (o := 0) hw.2.1 (by rintro l hp rfl; exact hp), fun _ _ => rfl⟩⟩
          | ptr i o =>
            simp only [ownPlace, decide_eq_true_eq] at hc
            obtain ⟨hc1, rfl, rfl⟩ := hc
            obtain ⟨b2, o2, hm2, rfl⟩ := g5.ptr_inv
            rw [hm] at hm2; cases hm2
            refine (hu b0 w g3).mono ?_
            rintro e w' ⟨rfl, rfl⟩
            refine ⟨_, G, O, rfl, .tuple .nil, ?_, ⟨G.le_refl, .refl _ _ _, fun _ _ => rfl⟩⟩
            rw [upd_self hcs]; exact hr
          | _ => simp [ownPlace] at hc
      · cases hx
    · cases hx
  · cases hx
end Go.Ai

/- strings.Builder's String, strings.Join: the evaluator's answers are the model's. -/
namespace Go.Ai
open Go.RowKit

/-- a block behind the freezing of its head -/
def frzObj (p : Addr) (n : Nat) : Obj → Obj
  | .cells c elem (lo, hi) => .cells c elem (if lo == hi then (p.off, p.off + n) else (min lo p.off, max hi (p.off + n)))
  | o => o
theorem heap_freeze (w : World) (p : Addr) (n b : Nat) : (w.freeze p n).heap[b]? = if n = 0 then w.heap[b]? else if p.block = b then (w.heap[b]?).map (frzObj p n) else w.heap[b]? := by
  unfold World.freeze
  by_cases hn : n = 0
  · rw [if_pos hn, if_pos hn]
  · rw [if_neg hn, if_neg hn]
    simp only [Array.getElem?_modify]
    rfl
theorem cell_freeze (w : World) (p : Addr) (n : Nat) (a : Addr) : (w.freeze p n).cell? a = w.cell? a := by
  unfold World.cell?
  rw [heap_freeze]
  by_cases hn : n = 0
  · rw [if_pos hn]
  · rw [if_neg hn]
    by_cases hb : p.block = a.block
    · rw [if_pos hb]
      cases w.heap[a.block]? with
      | none => rfl
      | some o => cases o <;> rfl
    · rw [if_neg hb]
theorem shp_freeze (w : World) (p : Addr) (n : Nat) (b : Nat) {x : TypeId × Nat} (h : shp w b = some x) : shp (w.freeze p n) b = some x := by
  unfold shp at h ⊢
  rw [heap_freeze]
  by_cases hn : n = 0
  · rw [if_pos hn]; exact h
  · rw [if_neg hn]
    by_cases hb : p.block = b
    · rw [if_pos hb]
      cases ho : w.heap[b]? with
      | none => rw [ho] at h; cases h
      | some o =>
        rw [ho] at h
        cases o with
        | cells c e fz =>
          obtain ⟨lo, hi⟩ := fz
          simp only [Option.map_some, frzObj] at h ⊢
          split at h
          · by_cases hl : lo = hi
            · simp only [hl, beq_self_eq_true, if_true]; rw [if_pos (by omega)]; exact h
            · have hl2 : (lo == hi) = false := by simpa using hl
              simp only [hl2, Bool.false_eq_true, if_false]
              rw [if_pos (by omega)]; exact h
          · cases h
        | _ => cases h
    · rw [if_neg hb]; exact h
theorem size_freeze (w : World) (p : Addr) (n : Nat) : (w.freeze p n).heap.size = w.heap.size := by
  unfold World.freeze; split <;> simp
/-- behind a frozen head: what was not frozen there is not frozen -/
theorem frozen_freeze (w : World) (g n b x : Nat) {q : TypeId × Nat} (hs : shp w g = some q) (hroom : ∀ y, n ≤ y → w.frozen? ⟨g, y, none⟩ = false) (h : w.frozen? ⟨b, x, none⟩ = false) (hx : b = g → n ≤ x) :
    (w.freeze ⟨g, 0, none⟩ n).frozen? ⟨b, x, none⟩ = false := by
  unfold World.frozen? at h ⊢
  rw [heap_freeze]
  by_cases hn : n = 0
  · rw [if_pos hn]; exact h
  · rw [if_neg hn]
    by_cases hb : g = b
    · subst hb
      have hx := hx rfl
      rw [if_pos rfl]
      unfold shp at hs
      unfold World.frozen? at hroom
      cases ho : w.heap[g]? with
      | none => rfl
      | some o =>
        simp only [ho] at hroom h hs
        cases o with
        | cells c e fz =>
          obtain ⟨lo, hi⟩ := fz
          simp only [Option.map_some, frzObj] at hroom h hs ⊢
          split at hs
          · rename_i hle
            by_cases hl : lo = hi
            · simp only [hl, beq_self_eq_true, if_true, Nat.zero_add, Bool.and_eq_false_iff, decide_eq_false_iff_not]; right; omega
            · have hhi : hi ≤ n := by
                rcases Nat.lt_or_ge n hi with hh | hh
                · have := hroom (hi - 1) (by omega)
                  simp only [Bool.and_eq_false_iff, decide_eq_false_iff_not] at this
                  omega
                · exact hh
              have hl2 : (lo == hi) = false := by simpa using hl
              simp only [hl2, Bool.false_eq_true, if_false, Nat.zero_add, Bool.and_eq_false_iff, decide_eq_false_iff_not]
              right
              omega
          · cases hs
        | _ => rfl
    · rw [if_neg hb]; exact h

/-- an answer that leaves what is known as it is -/
theorem prim_same {B : Nat} {w0 : World} {G : Ghost} {O : Own} {h : Heap} {q : Id} {v : A} {w w' : World} {e : Ending} {z : Value} (hr : R B w0 G O h w) (he : e = .returned z) (hv : V G v z) (hx : Ext w w') :
    ∃ z G' O', e = .returned z ∧ V G' v z ∧ R B w0 G' O' h w' ∧ MvC q G O w G' O' w' :=
  ⟨z, G, O, he, hv, hr.ext hx G.le_refl (fun _ _ _ => rfl) (fun _ _ _ hk => .inl hk) (fun b o l hl => Nat.lt_of_lt_of_le (hr.lt b o l hl) hx.size), ⟨G.le_refl, .ext hx (fun _ _ _ => rfl) hr.lt, fun _ _ => rfl⟩⟩
theorem Ext.trans {w w1 w2 : World} (h : Ext w w1) (k : Ext w1 w2) : Ext w w2 := ⟨k.os.trans h.os, k.tape.trans h.tape, k.output.trans h.output, Nat.le_trans h.size k.size, fun b hb => (k.block b (Nat.lt_of_lt_of_le hb h.size)).trans (h.block b hb)⟩
theorem Ext.of_below {w w' : World} (h : Below w.heap.size w w') : Ext w w' := ⟨h.os, h.tape, h.output, h.size, h.block⟩
theorem Ext.drew {w w' : World} (h : Ext w w') : Ext w w'.drew := ⟨h.os, h.tape, h.output, h.size, h.block⟩

/-- the head of a row of bytes frozen -/
theorem prim_freeze {B : Nat} {w0 : World} {G : Ghost} {O : Own} {h : Heap} {q : Id} {v : A} {w w' : World} {e : Ending} {z : Value} {g n : Nat} {L : Lab} {t : TypeId × Nat} (hr : R B w0 G O h w) (he : e = .returned z) (hv : V G v z) (hw : w' = (w.freeze ⟨g, 0, none⟩ n).drew)
    (hsh : shp w g = some t) (h5 : t.1 = 5) (hi : ∀ x, x < n → O g x = some .imm) (hL : ∀ x, n ≤ x → O g x = some L ∧ w.frozen? ⟨g, x, none⟩ = false) (hp : ¬ Prot q L) (hne : L ≠ .imm) (hnr : L ≠ .rest) :
    ∃ z G' O', e = .returned z ∧ V G' v z ∧ R B w0 G' O' h w' ∧ MvC q G O w G' O' w' := by
  have hB : B ≤ g := hr.new g n L (hL n (Nat.le_refl n)).1 hne hnr
  have hcell : ∀ a, w'.cell? a = w.cell? a := fun a => by rw [hw]; exact cell_freeze w _ n a
  have hfz : ∀ b x l, O b x = some l → l ≠ .imm → w.frozen? ⟨b, x, none⟩ = false → w'.frozen? ⟨b, x, none⟩ = false := by
    intro b x l hl hne hf
    rw [hw]
    refine frozen_freeze w g n b x hsh (fun y hy => (hL y hy).2) hf ?_
    rintro rfl
    rcases Nat.lt_or_ge x n with hx | hx
    · rw [hi x hx] at hl; cases hl; exact absurd rfl hne
    · exact hx
  have hshp : ∀ b x, shp w b = some x → shp w' b = some x := fun b x hb => by rw [hw]; exact shp_freeze w _ n b hb
  have hsize : w'.heap.size = w.heap.size := by rw [hw]; exact size_freeze w _ n
  have hoth : ∀ b, b ≠ g → ∀ {y}, w'.frozen? ⟨b, y, none⟩ = w.frozen? ⟨b, y, none⟩ := by
    intro b hbg y
    rw [hw]
    show (w.freeze ⟨g, 0, none⟩ n).frozen? _ = _
    unfold World.frozen?
    rw [heap_freeze]
    simp only
    rw [if_neg (show ¬ g = b from fun h => hbg h.symm)]
    simp
  have hroom : ∀ {L' : Lab} {u : A} {y : Value}, L' ≠ .imm → Room O w L' u y → Room O w' L' u y := by
    intro L' u y hne' hro xs s b o m cap e1 e2
    obtain ⟨⟨s1, s2⟩, hall⟩ := hro xs s b o m cap e1 e2
    refine ⟨⟨s1, hshp _ _ s2.1, fun hs y => by rw [hoth b (by rintro rfl; rw [hsh] at s2; exact hs ((congrArg Prod.fst (Option.some.inj s2.1)).symm.trans h5))]; exact s2.2 hs y⟩, fun x hx => ?_⟩
    obtain ⟨k1, k2, k3⟩ := hall x hx
    exact ⟨k1, by rw [hcell]; exact k2, hfz _ _ _ k1 hne' k3⟩
  refine ⟨z, G, O, he, hv, ⟨?_, by rw [hsize]; exact hr.base, fun b o v hk => ⟨(hr.imm b o v hk).1, by rw [hcell]; exact (hr.imm b o v hk).2⟩, ?_, by rw [hsize]; exact hr.lt, hr.new, hr.bot, ?_⟩, ⟨G.le_refl, ⟨?_, by rw [hsize]; exact Nat.le_refl _, hshp, fun b x hb hx y => hoth b (by rintro rfl; rw [hsh] at hb; cases hb; exact hx h5)⟩, fun _ _ => rfl⟩⟩
  · rw [hw]; exact Below.drew (Lib.below_freeze hr.below (p := ⟨g, 0, none⟩) hB n)
  · intro id cs hid
    obtain ⟨b, o, hm, ho⟩ := hr.obj id cs hid
    refine ⟨b, o, hm, fun j a hj => ?_⟩
    obtain ⟨h1, h2, v, h3, h4, h5, h6⟩ := ho j a hj
    exact ⟨h1, hfz _ _ _ h1 (by simp) h2, v, by rw [hcell]; exact h3, h4, h5, hroom (by simp) h6⟩
  · intro id cs b o hid hm
    obtain ⟨k1, t, k2, n, k3, k4⟩ := hr.typ id cs b o hid hm
    exact ⟨k1, t, k2, n, hshp _ _ k3, k4⟩
  · intro b o l hl hpl
    refine ⟨hl, hcell _, ?_⟩
    -- protected cells lie in other blocks
    have hbg : b ≠ g := by
      rintro rfl
      rcases Nat.lt_or_ge o n with hx | hx
      · rw [hi o hx] at hl; cases hl; exact hpl
      · rw [(hL o hx).1] at hl; cases hl; exact hp hpl
    exact hoth b hbg
theorem strsOf_ok {G : Ghost} {b : Nat} : ∀ {xs : List (List A)} {ss : List (List UInt8)} {sz o : Nat}, strsOf xs = some ss → VS G sz xs b o → ss.length = xs.length ∧ (∀ (j : Nat) s, ss[j]? = some s → G.K b (o + j) = some (.string ⟨s.toArray⟩))
  | [], ss, sz, o, h, _ => by simp [strsOf] at h; subst h; simp
  | [.str s] :: r, ss, sz, o, h, hv => by
    simp only [strsOf, Option.map_eq_some_iff] at h
    obtain ⟨ss, h, rfl⟩ := h
    cases hv with
    | cons hsz hk hr =>
      simp only [List.length_cons, List.length_nil] at hsz
      subst hsz
      obtain ⟨g1, g2⟩ := strsOf_ok h hr
      refine ⟨by simp [g1], fun j u hj => ?_⟩
      cases j with
      | zero =>
        simp only [List.getElem?_cons_zero, Option.some.injEq] at hj; subst hj
        cases hk with
        | cons k1 k2 k3 k4 =>
          rw [V.str_inv k3] at k1
          exact k1
      | succ j =>
        have := g2 j u (by simpa using hj)
        rwa [show o + 1 + j = o + (j + 1) by omega] at this
  | [] :: r, _, _, _, h, _ => by simp [strsOf] at h
  | (a :: b :: c) :: r, _, _, _, h, _ => by simp [strsOf] at h
  | [.top] :: r, _, _, _, h, _ => by simp [strsOf] at h
  | [.int _ _] :: r, _, _, _, h, _ => by simp [strsOf] at h
  | [.bool _] :: r, _, _, _, h, _ => by simp [strsOf] at h
  | [.nilp] :: r, _, _, _, h, _ => by simp [strsOf] at h
  | [.ptr _ _] :: r, _, _, _, h, _ => by simp [strsOf] at h
  | [.ref _ _] :: r, _, _, _, h, _ => by simp [strsOf] at h
  | [.nils] :: r, _, _, _, h, _ => by simp [strsOf] at h
  | [.slice _ _] :: r, _, _, _, h, _ => by simp [strsOf] at h
  | [.mslice _ _ _] :: r, _, _, _, h, _ => by simp [strsOf] at h
  | [.nilf] :: r, _, _, _, h, _ => by simp [strsOf] at h
  | [.fn _ _] :: r, _, _, _, h, _ => by simp [strsOf] at h
  | [.nili] :: r, _, _, _, h, _ => by simp [strsOf] at h
  | [.iface _ _] :: r, _, _, _, h, _ => by simp [strsOf] at h
  | [.agg _] :: r, _, _, _, h, _ => by simp [strsOf] at h
  | [.tuple _] :: r, _, _, _, h, _ => by simp [strsOf] at h

theorem stringsJoin_ok {P : Program} {B : Nat} {w0 : World} {f : Nat} (hen : Enters P f)
    (h0 : ∀ (a : Option Addr) (c : Nat) (sep : ByteArray) (w : World), Calls P f #[.slice a 0 c, .string sep] w fun e w' => e = .returned (.string ⟨#[]⟩) ∧ w' = w)
    (h1 : ∀ (bk o c : Nat) (xs : List ByteArray) (sep : ByteArray) (w : World), (∀ (j : Nat) x, xs[j]? = some x → w.cell? ⟨bk, o + j, none⟩ = some (.string x)) →
      bk < w.heap.size → xs.length ≤ 140737488355328 → xs.length ≤ c → (Lib.join (xs.map (·.data.toList)) sep.data.toList).length ≤ 140737488355328 →
      Calls P f #[.slice (some ⟨bk, o, none⟩) xs.length c, .string sep] w fun e w' => e = .returned (.string ⟨(Lib.join (xs.map (·.data.toList)) sep.data.toList).toArray⟩) ∧ Below w.heap.size w w') : PrimOK P B w0 f stringsJoin := by
  intro q args h v h' hx
  unfold stringsJoin at hx
  split at hx
  · rename_i xs own sep
    simp only [Option.bind_eq_some_iff] at hx
    obtain ⟨ss, hss, hx⟩ := hx
    split at hx
    · rename_i hlen
      simp only [Option.some.injEq, Prod.mk.injEq] at hx
      obtain ⟨rfl, rfl⟩ := hx
      refine ⟨hen, (by intro xs s e; cases e), fun G O w vs _ hvs hr hfresh => ?_⟩
      cases hvs with
      | cons hv hrest =>
        cases hrest with
        | cons hv2 hrest =>
          cases hrest
          rw [V.str_inv hv2]
          have hjnil : ∀ sep, Lib.join [] sep = [] := by intro sep; simp [Lib.join, List.intercalate]
          cases hv with
          | sliceNil =>
            simp [strsOf] at hss; subst hss
            refine (h0 none 0 _ w).mono ?_
            rintro e w' ⟨rfl, rfl⟩
            exact prim_same hr rfl (by rw [hjnil]; exact .str) (Ext.refl _)
          | @sliceE a =>
            simp [strsOf] at hss; subst hss
            refine (h0 (some a) 0 _ w).mono ?_
            rintro e w' ⟨rfl, rfl⟩
            exact prim_same hr rfl (by rw [hjnil]; exact .str) (Ext.refl _)
          | slice hvs hcap hown =>
            rename_i b o cap sz
            obtain ⟨g1, g2⟩ := strsOf_ok hss hvs
            by_cases hz : ss = []
            · subst hz
              simp only [List.length_nil] at g1
              rw [← g1]
              refine (h0 _ _ _ w).mono ?_
              rintro e w' ⟨rfl, rfl⟩
              exact prim_same hr rfl (by rw [hjnil]; exact .str) (Ext.refl _)
            · have hmm : (ss.map fun s : List UInt8 => (⟨s.toArray⟩ : ByteArray)).map (·.data.toList) = ss := by
                rw [List.map_map]
                have : ((fun x : ByteArray => x.data.toList) ∘ fun s : List UInt8 => (⟨s.toArray⟩ : ByteArray)) = id := by funext s; rfl
                rw [this, List.map_id]
              have hb : b < w.heap.size := by
                obtain ⟨s0, r, rfl⟩ : ∃ s0 r, ss = s0 :: r := by cases ss with | nil => exact absurd rfl hz | cons a t => exact ⟨a, t, rfl⟩
                exact hr.lt _ _ _ (hr.imm _ _ _ (g2 0 s0 rfl)).1
              have := h1 b o cap (ss.map fun s => ⟨s.toArray⟩) ⟨sep.toArray⟩ w (by
                intro j x hj
                simp only [List.getElem?_map, Option.map_eq_some_iff] at hj
                obtain ⟨s, hs, rfl⟩ := hj
                exact (hr.imm _ _ _ (g2 j s hs)).2) hb (by simpa using hlen.1) (by simpa [g1] using hcap) (by rw [hmm]; exact hlen.2)
              rw [hmm] at this
              simp only [List.length_map, g1] at this
              refine this.mono ?_
              rintro e w' ⟨rfl, hbel⟩
              exact prim_same hr rfl .str (Ext.of_below hbel)
    · cases hx
  · cases hx

theorem builderString_ok {P : Program} {B : Nat} {w0 : World} {f u8 : Nat} (h5 : u8 = 5) (hen : Enters P f)
    (hnil : ∀ (b : Nat) (w : World), w.cell? ⟨b, 1, none⟩ = some (.slice none 0 0) → Calls P f #[.pointer (some ⟨b, 0, none⟩)] w fun e w' => e = .returned (.string ⟨#[]⟩) ∧ Ext w w')
    (hzero : ∀ (b g : Nat) (w : World) (sh : TypeId × Nat), w.cell? ⟨b, 1, none⟩ = some (.slice (some ⟨g, 0, none⟩) 0 0) → w.shape? g = some sh → Calls P f #[.pointer (some ⟨b, 0, none⟩)] w fun e w' => e = .returned (.string ⟨#[]⟩) ∧ Ext w w')
    (hroom : ∀ (b g cap : Nat) (w : World), w.cell? ⟨b, 1, none⟩ = some (.slice (some ⟨g, 0, none⟩) 0 cap) → cap ≠ 0 → Calls P f #[.pointer (some ⟨b, 0, none⟩)] w fun e w' => e = .returned (.string ⟨#[]⟩) ∧ Ext w w')
    (hsome : ∀ (b g cap cells : Nat) (l : List UInt8) (w : World), w.cell? ⟨b, 1, none⟩ = some (.slice (some ⟨g, 0, none⟩) l.length cap) → l ≠ [] → l.length ≤ cap → w.shape? g = some (u8, cells) → l.length ≤ cells →
      l.length ≤ 9223372036854775807 → (∀ j x, l[j]? = some x → w.cell? ⟨g, j, none⟩ = some (.int .u8 x.toNat)) →
      Calls P f #[.pointer (some ⟨b, 0, none⟩)] w fun e w' => e = .returned (.string ⟨l.toArray⟩) ∧ w' = (w.freeze ⟨g, 0, none⟩ l.length).drew) : PrimOK P B w0 f (builderString u8) := by
  intro q args h v h' hx
  unfold builderString at hx
  split at hx
  · rename_i id
    simp only [Option.bind_eq_some_iff] at hx
    obtain ⟨cs, hcs, hx⟩ := hx
    have start : ∀ {G : Ghost} {O : Own} {w : World} {vs : List Value}, VF G [A.ptr id 0] vs → R B w0 G O h w → ∃ b, vs = [.pointer (some ⟨b, 0, none⟩)] ∧ ObjAt G O w id b 0 cs := by
      intro G O w vs hvs hr
      cases hvs with
      | cons hv hrest =>
        cases hrest
        obtain ⟨b0, o0, hm, rfl⟩ := hv.ptr_inv
        obtain ⟨rfl, _⟩ := hr.typ _ _ _ _ hcs hm
        obtain ⟨b1, o1, hm1, ho⟩ := hr.obj _ _ hcs
        rw [hm] at hm1; cases hm1
        exact ⟨_, rfl, ho⟩
    split at hx
    · simp only [Option.some.injEq, Prod.mk.injEq] at hx
      obtain ⟨rfl, rfl⟩ := hx
      refine ⟨hen, (by intro xs s e; cases e), fun G O w vs _ hvs hr hfresh => ?_⟩
      obtain ⟨b, rfl, ho⟩ := start hvs hr
      obtain ⟨g1, g2, v0, g3, g4, g5, g6⟩ := ho 1 .nils rfl
      simp only [Nat.zero_add] at g3
      cases g5
      refine (hnil b w g3).mono ?_
      rintro e w' ⟨rfl, hx⟩
      exact prim_same hr rfl .str hx
    · rename_i xs qq
      split at hx
      · rename_i hq
        subst hq
        simp only [Option.bind_eq_some_iff] at hx
        obtain ⟨bs, hbs, hx⟩ := hx
        split at hx
        · rename_i hmax
          simp only [Option.some.injEq, Prod.mk.injEq] at hx
          obtain ⟨rfl, rfl⟩ := hx
          refine ⟨hen, (by intro xs s e; cases e), fun G O w vs _ hvs hr hfresh => ?_⟩
          obtain ⟨b, rfl, ho⟩ := start hvs hr
          obtain ⟨g1, g2, v0, g3, g4, g5, g6⟩ := ho 1 _ rfl
          simp only [Nat.zero_add] at g3
          cases g5 with
          | sliceNil =>
            simp [unbytes] at hbs; subst hbs
            refine (hnil b w g3).mono ?_
            rintro e w' ⟨rfl, hx⟩
            exact prim_same hr rfl .str hx
          | slice hvs hcap hown =>
            rename_i g o cap sz
            obtain ⟨hsz, _⟩ := hown _ rfl
            simp only at hsz
            subst hsz
            obtain ⟨⟨rfl, hsh⟩, hall⟩ := g6 _ _ _ _ _ _ rfl rfl
            simp only [Nat.mul_one, Nat.zero_add] at hsh hall
            obtain ⟨f1, f2, f3⟩ := hvs.flat
            obtain ⟨us, k1, k2, k3⟩ := f1.vals
            have hus := unbytes_ok hbs k1
            have hlen : xs.length = bs.length := by
              have := k1.length
              rw [f2, hus, List.length_map, Nat.mul_one] at this
              omega
            rw [hlen] at g3 hcap hall
            by_cases hb0 : bs = []
            · subst hb0
              by_cases hc0 : cap = 0
              · subst hc0
                refine (hzero b g w _ g3 (shp_shape hsh.1)).mono ?_
                rintro e w' ⟨rfl, hx⟩
                exact prim_same hr rfl .str hx
              · refine (hroom b g cap w g3 hc0).mono ?_
                rintro e w' ⟨rfl, hx⟩
                exact prim_same hr rfl .str hx
            · have hK : ∀ j x, bs[j]? = some x → G.K g j = some (.int .u8 x.toNat) := by
                intro j x hj
                have := k3 j (.int .u8 x.toNat) (by rw [hus, List.getElem?_map, hj]; rfl)
                rwa [Nat.zero_add] at this
              refine (hsome b g cap cap bs w g3 hb0 hcap (shp_shape hsh.1) hcap (by unfold maxStr at hmax; exact hmax) (fun j x hj => (hr.imm _ _ _ (hK j x hj)).2)).mono ?_
              rintro e w' ⟨rfl, rfl⟩
              refine prim_freeze hr rfl .str rfl hsh.1 h5 (fun x hx => ?_) (fun x hx => ⟨(hall x hx).1, (hall x hx).2.2⟩) (by exact fun h => h) (by simp) (by simp)
              exact (hr.imm _ _ _ (hK x _ (List.getElem?_eq_getElem hx))).1
        · cases hx
      · cases hx
    · cases hx
  · cases hx
end Go.Ai

/- errors.As: the evaluator's answers are the model's. -/
namespace Go.Ai
open Go.RowKit

/-- the chain of errors in memory -/
inductive Ch (tc tw tf T : Nat) (w : World) : Value → Option Value → Prop
  | nil : Ch tc tw tf T w .nilIface none
  | hitC {n : Int} : T = tc → Ch tc tw tf T w (.iface T (.int .i64 n)) (some (.int .i64 n))
  | hitW {p : Addr} : T ≠ tc → Ch tc tw tf T w (.iface T (.pointer (some p))) (some (.pointer (some p)))
  | miss {v : Value} : tc ≠ T → Ch tc tw tf T w (.iface tc v) none
  | step {t b o : Nat} {e : Value} {r : Option Value} : (t = tw ∨ t = tf) → t ≠ T → t ≠ tc → w.cell? ⟨b, o + 1, none⟩ = some e → Ch tc tw tf T w e r → Ch tc tw tf T w (.iface t (.pointer (some ⟨b, o, none⟩))) r

/-- what errors.As may do -/
inductive AsOut (w : World) (t : Addr) : Option Value → Ending → World → Prop
  | no {w' : World} : Ext w w' → AsOut w t none (.returned (.bool false)) w'
  | yes {w1 w' : World} {v : Value} : Ext w w1 → w' = w1.setCell t v → AsOut w t (some v) (.returned (.bool true)) w'

theorem V.iface_inv {G : Ghost} {t : Nat} {a : A} {z : Value} (h : V G (.iface t a) z) : ∃ v, z = .iface t v ∧ V G a v := by
  cases h with
  | iface h => exact ⟨_, rfl, h⟩
theorem V.ref_inv {G : Ghost} {cs : List A} {off : Nat} {z : Value} (h : V G (.ref cs off) z) : ∃ b o, z = .pointer (some ⟨b, o + off, none⟩) ∧ VK G cs b o := by
  cases h with
  | ref h => exact ⟨_, _, rfl, h⟩

theorem chainA_ok {tc tw tf T : Nat} {G : Ghost} {w : World} (hK : ∀ b o v, G.K b o = some v → w.cell? ⟨b, o, none⟩ = some v) : ∀ (n : Nat) (e : A) (r : Option A) (v : Value), chainA tc tw tf T n e = some r → V G e v →
    (r = none ∧ Ch tc tw tf T w v none) ∨ (∃ a u, r = some a ∧ a.free ∧ a.cells = some [a] ∧ a.weak1 = a ∧ V G a u ∧ u.oneCell' = true ∧ Ch tc tw tf T w v (some u))
  | 0, _, _, _, h, _ => by simp [chainA] at h
  | n + 1, e, r, v, h, hv => by
    unfold chainA at h
    split at h
    · simp only [Option.some.injEq] at h; subst h
      cases hv
      exact .inl ⟨rfl, .nil⟩
    · rename_i t a
      obtain ⟨x, rfl, hx⟩ := hv.iface_inv
      split at h
      · rename_i ht
        subst ht
        split at h
        · rename_i htc
          split at h
          · rename_i k
            simp only [Option.some.injEq] at h; subst h
            rw [V.int_inv hx]
            exact .inr ⟨_, _, rfl, (by intro xs s e; cases e), rfl, rfl, .int, rfl, .hitC htc⟩
          · cases h
        · rename_i htc
          split at h
          · rename_i cs o
            simp only [Option.some.injEq] at h; subst h
            obtain ⟨b, o', rfl, hk⟩ := hx.ref_inv
            exact .inr ⟨_, _, rfl, (by intro xs s e; cases e), rfl, rfl, .ref hk, rfl, .hitW htc⟩
          · cases h
      · rename_i ht
        split at h
        · rename_i htc
          subst htc
          simp only [Option.some.injEq] at h; subst h
          exact .inl ⟨rfl, .miss ht⟩
        · rename_i htc
          split at h
          · rename_i hor
            split at h
            · rename_i c0 e' cs
              obtain ⟨b, o', rfl, hk⟩ := hx.ref_inv
              cases hk with
              | cons k1 k2 k3 k4 =>
                cases k4 with
                | cons q1 q2 q3 q4 =>
                  rename_i u
                  have hc := hK _ _ _ q1
                  rcases chainA_ok hK n e' r u h q3 with ⟨rfl, hch⟩ | ⟨a, u', rfl, g1, g2, g3, g4, g5, hch⟩
                  · exact .inl ⟨rfl, .step hor ht htc hc hch⟩
                  · exact .inr ⟨a, u', rfl, g1, g2, g3, g4, g5, .step hor ht htc hc hch⟩
            · cases h
          · cases h
    · cases h

theorem errorsAs_ok {P : Program} {B : Nat} {w0 : World} {f tc tw tf gl : Nat} {targets : List (Nat × Nat)} (hen : Enters P f) {gv : Value} (hB : gl < B) (hg : w0.cell? ⟨gl, 0, none⟩ = some gv)
    (hT : ∀ q ∈ targets, ∀ (e : Value) (r : Option Value) (t : Addr) (old : Value) (w : World), Ch tc tw tf q.2 w e r → w.cell? ⟨gl, 0, none⟩ = some gv → w.cell? t = some old → w.frozen? t = false →
      Calls P f #[e, .iface q.1 (.pointer (some t))] w fun ev w' => AsOut w t r ev w') : PrimOK P B w0 f (errorsAs tc tw tf targets) := by
  intro q args h v h' hx
  unfold errorsAs at hx
  split at hx
  · rename_i e tp id off
    split at hx
    · rename_i x T hfind
      have hmem := List.mem_of_find?_eq_some hfind
      have htp : x = tp := by have := List.find?_some hfind; simpa using this
      subst htp
      simp only [Option.bind_eq_some_iff] at hx
      obtain ⟨cs, hcs, hx⟩ := hx
      have hoff : off < cs.length := by
        split at hx
        · split at hx
          · assumption
          · cases hx
        · split at hx
          · assumption
          · cases hx
        · cases hx
      simp only [if_pos hoff] at hx
      have hv0 : v.free := by
        split at hx
        · simp only [Option.some.injEq, Prod.mk.injEq] at hx; obtain ⟨rfl, _⟩ := hx; intro xs s e; cases e
        · simp only [Option.some.injEq, Prod.mk.injEq] at hx; obtain ⟨rfl, _⟩ := hx; intro xs s e; cases e
        · cases hx
      refine ⟨hen, hv0, fun G O w vs _ hvs hr hfresh => ?_⟩
      cases hvs with
      | cons hve hrest =>
        cases hrest with
        | cons hvt hrest =>
          cases hrest
          obtain ⟨y, rfl, hp⟩ := hvt.iface_inv
          obtain ⟨b, o, hm, rfl⟩ := hp.ptr_inv
          obtain ⟨b1, o1, hm1, ho⟩ := hr.obj _ _ hcs
          rw [hm] at hm1; cases hm1
          obtain ⟨g1, g2, v0, g3, g4, g5, g6⟩ := ho off _ (List.getElem?_eq_getElem hoff)
          have hgw : w.cell? ⟨gl, 0, none⟩ = some gv := (World.cell?_of_block (w := w0) (hr.below.block gl hB)).trans hg
          cases hch : chainA tc tw tf T (A.depth e + 1) e with
          | none => rw [hch] at hx; cases hx
          | some r =>
            rw [hch] at hx
            rcases chainA_ok (tc := tc) (tw := tw) (tf := tf) (T := T) (fun b o v hk => (hr.imm b o v hk).2) _ _ _ _ hch hve with ⟨rfl, hc⟩ | ⟨a, u, rfl, k1, k2, k3, k4, k5, hc⟩
            · simp only [Option.some.injEq, Prod.mk.injEq] at hx
              obtain ⟨rfl, rfl⟩ := hx
              refine (hT (x, T) hmem _ _ _ _ w hc hgw g3 g2).mono ?_
              intro ev w' hout
              cases hout with
              | no hx => exact prim_same hr rfl .bool hx
            · simp only [Option.some.injEq, Prod.mk.injEq] at hx
              obtain ⟨rfl, rfl⟩ := hx
              refine (hT (x, T) hmem _ _ _ _ w hc hgw g3 g2).mono ?_
              intro ev w' hout
              cases hout with
              | yes hx he =>
                rename_i w1
                obtain ⟨z1, G1, O1, e1, hz, hr1, hm1⟩ := prim_same (q := q) (v := .bool true) (z := .bool true) (e := .returned (.bool true)) hr rfl .bool hx
                have hspl : splice cs off [a] = some (cs.set off a) := by
                  simp only [splice, List.length_cons, List.length_nil, Nat.zero_add]
                  rw [if_pos (by omega), List.set_eq_take_append_cons_drop, if_pos hoff]
                  simp
                have hw := hr1.write (us := [u]) (hm1.le.2 _ _ hm) hcs hspl (.cons (k4.mono hm1.le) .nil) (by simp [k5]) (fun j x u hj _ => by
                  cases j with
                  | zero => simp at hj; subst hj; exact Room.free k1
                  | succ j => simp at hj)
                refine ⟨_, G1, O1, rfl, .bool, by rw [he]; exact hw.1, ⟨hm1.le, hm1.keeps.trans ?_, hm1.ids⟩⟩
                rw [he]
                exact Keeps.write (S := fun l => l = .obj id) (vs := [u]) (b := b) (o := o + off) hw.2.1 (by rintro l hp rfl; exact hp)
    · cases hx
  · cases hx
end Go.Ai

/- From a law's call in the evaluator to the model's; from data in memory to abstract values. -/
namespace Go.Ai
open Go.RowKit

/-- what is known at a law's beginning: all cells, and that nobody writes them -/
def startG (W : World) : Ghost := ⟨fun b o => W.cell? ⟨b, o, none⟩, fun i => if i = [] then some (W.heap.size, 0) else none⟩
def startO (W : World) : Own := fun b o => if (W.cell? ⟨b, o, none⟩).isSome = true then some .imm else none

theorem cell_lt {W : World} {b o : Nat} {v : Value} (h : W.cell? ⟨b, o, none⟩ = some v) : b < W.heap.size := by
  rcases Nat.lt_or_ge b W.heap.size with h' | h'
  · exact h'
  · simp [World.cell?, Array.getElem?_eq_none h'] at h
theorem start_R (W : World) : R W.heap.size W (startG W) (startO W) (fun _ => none) W where
  below := Below.refl _ _
  base := Nat.le_refl _
  imm b o v hk := ⟨by simp only [startG] at hk; simp [startO, hk], hk⟩
  obj id cs h := by cases h
  lt b o l h := by
    simp only [startO] at h
    split at h
    · rename_i hs
      obtain ⟨v, hv⟩ := Option.isSome_iff_exists.1 hs
      exact cell_lt hv
    · cases h
  new b o l h h1 h2 := by
    simp only [startO] at h
    split at h
    · cases h; exact absurd rfl h1
    · cases h
  bot := by simp [startG]
  typ id cs b o h := by cases h
theorem start_fresh (W : World) : Fresh (startG W) [] 0 := by
  intro i hi
  simp only [startG]
  rw [if_neg]
  rintro rfl
  simp [underB] at hi

/-- a law's call -/
theorem law_top {E : Env} {f : Nat} {as : List A} {vs : List Value} {W : World} {h' : Heap} (hE : EnvOK E W.heap.size W) (hfree : ∀ a ∈ as, a.free) (hv : VF (startG W) as vs)
    (hc : callW E [] f as (fun _ => none) = some (.bool true, h')) : Calls E.P f ⟨vs⟩ W fun e W' => e = .returned (.bool true) ∧ Below W.heap.size W W' := by
  obtain ⟨_, _, h3⟩ := callW_ok hE [] f as _ _ _ hc
  refine (h3 (startG W) (startO W) W vs hfree hv (start_R W) (start_fresh W)).mono ?_
  rintro e W' ⟨z, G', O', rfl, hz, hr, _⟩
  cases hz
  exact ⟨rfl, hr.below⟩

/-! ### Data in memory -/
/-- a struct's fields lie one behind the other -/
def tilesB (P : Program) : Nat → List Field → Bool
  | _, [] => true
  | o, f :: fs => f.offset == o && tilesB P (o + P.cellsOf f.type) fs
/-- types of plain data: made of one another -/
def plainB (P : Program) (ts : List Nat) : Bool := ts.all fun t => match P.underlying t with
  | some .bool => P.cellsOf t == 1
  | some (.int _) => P.cellsOf t == 1
  | some .string => P.cellsOf t == 1
  | some (.slice e) => ts.contains e && decide (0 < P.cellsOf e) && P.cellsOf t == 1
  | some (.struct fs) => fs.toList.all (fun (f : Field) => ts.contains f.type) && tilesB P 0 fs.toList && decide ((fs.toList.map fun (f : Field) => P.cellsOf f.type).sum = P.cellsOf t)
  | _ => false

/-- cells of a type of plain data -/
inductive WT (P : Program) : Nat → List A → Prop
  | bool {t : Nat} {b : Bool} : P.underlying t = some .bool → WT P t [.bool b]
  | int {t : Nat} {k : IntKind} {n : Int} : P.underlying t = some (.int k) → (Lit.int k n).wf = true → WT P t [.int k n]
  | str {t : Nat} {s : List UInt8} : P.underlying t = some .string → s.length ≤ maxLen → WT P t [.str s]
  | slice {t e : Nat} {xs : List (List A)} : P.underlying t = some (.slice e) → xs.length ≤ maxLen → (∀ x ∈ xs, WT P e x) → WT P t [.slice xs none]
  | struct {t : Nat} {fs : Array Field} {ps : List (List A)} : P.underlying t = some (.struct fs) → ps.length = fs.toList.length → (∀ (i : Nat) (f : Field) (p : List A), fs.toList[i]? = some f → ps[i]? = some p → WT P f.type p) → WT P t ps.flatten

theorem VF.one {G : Ghost} {a : A} {v : Value} (h : V G a v) : VF G [a] [v] := .cons h .nil
theorem VK.of_cells {W : World} {b : Nat} : ∀ {as : List A} {vs : List Value} {o : Nat}, VF (startG W) as vs → (∀ v ∈ vs, v.oneCell' = true) → (∀ j v, vs[j]? = some v → W.cell? ⟨b, o + j, none⟩ = some v) → VK (startG W) as b o
  | _, _, _, .nil, _, _ => .nil
  | _, _, o, .cons (v := v) (vs := vs) hv hs, h1, hc => .cons (v := v) (by have := hc 0 v rfl; simpa [startG] using this) (h1 v (by simp)) hv
      (VK.of_cells hs (fun u hu => h1 u (by simp [hu])) (fun j u hj => by have := hc (j + 1) u (by simpa using hj); rwa [show o + 1 + j = o + (j + 1) by omega]))
theorem cells_list {w : World} {a : Addr} {n : Nat} {cs : List Value} (h : w.cells? 0 a n = some cs) : cs.length = n ∧ ∀ j v, cs[j]? = some v → w.cell? (a.add j) = some v := by
  unfold World.cells? at h
  rw [if_pos (Nat.zero_le _)] at h
  have hl := mapM_some_length h
  simp only [List.length_range] at hl
  refine ⟨hl, fun j v hj => ?_⟩
  have hjn : j < n := by
    rcases Nat.lt_or_ge j n with h' | h'
    · exact h'
    · rw [List.getElem?_eq_none (by omega)] at hj; cases hj
  have := mapM_some_get h j j (by simp [hjn])
  rw [this]; exact hj

/-- pieces one behind the other -/
theorem VF.tiles {P : Program} {G : Ghost} {cs : List Value} : ∀ {fs : List Field} {o : Nat} {ps : List (List A)}, tilesB P o fs = true → ps.length = fs.length → o + (fs.map fun (f : Field) => P.cellsOf f.type).sum = cs.length →
    (∀ (i : Nat) (f : Field) (p : List A), fs[i]? = some f → ps[i]? = some p → VF G p ((cs.drop f.offset).take (P.cellsOf f.type))) → VF G ps.flatten (cs.drop o)
  | [], o, [], _, _, hs, _ => by
    simp at hs
    rw [List.drop_eq_nil_of_le (by omega)]
    exact .nil
  | f :: fs, o, p :: ps, ht, hl, hs, h => by
    simp only [tilesB, Bool.and_eq_true, beq_iff_eq] at ht
    obtain ⟨ho, ht⟩ := ht
    have h0 := h 0 f p rfl rfl
    rw [ho] at h0
    simp only [List.map_cons, List.sum_cons] at hs
    have ih := VF.tiles (o := o + P.cellsOf f.type) (ps := ps) ht (by simpa using hl) (by omega) (fun i g q hg hq => h (i + 1) g q (by simpa using hg) (by simpa using hq))
    have e : cs.drop o = (cs.drop o).take (P.cellsOf f.type) ++ cs.drop (o + P.cellsOf f.type) := by
      rw [← List.drop_drop, List.take_append_drop]
    rw [e, List.flatten_cons]
    exact h0.append ih
  | [], _, _ :: _, _, hl, _, _ => by simp at hl
  | _ :: _, _, [], _, hl, _, _ => by simp at hl

theorem exists_list {α : Type} {n : Nat} {p : Nat → α → Prop} (h : ∀ i, i < n → ∃ a, p i a) : ∃ l : List α, l.length = n ∧ ∀ i a, l[i]? = some a → p i a := by
  induction n with
  | zero => exact ⟨[], rfl, by simp⟩
  | succ n ih =>
    obtain ⟨l, hl, hp⟩ := ih fun i hi => h i (by omega)
    obtain ⟨a, ha⟩ := h n (by omega)
    refine ⟨l ++ [a], by simp [hl], fun i b hb => ?_⟩
    rcases Nat.lt_or_ge i n with hi | hi
    · rw [List.getElem?_append_left (by omega)] at hb; exact hp i b hb
    · rw [List.getElem?_append_right (by omega)] at hb
      have : i = n := by
        rcases Nat.lt_or_ge n i with h' | h'
        · rw [List.getElem?_eq_none (by simp; omega)] at hb; cases hb
        · omega
      subst this
      rw [hl, Nat.sub_self] at hb
      simp at hb; subst hb; exact ha

theorem trod_WT {H : Type} {enc : TypeId × Value → H} {P : Program} {W : World} {ts : List Nat} (hp : plainB P ts = true) : ∀ (n : Nat) (t : Nat) (cs : List Value) (x : DataW H × List MemPlace), t ∈ ts →
    DataW.trod enc P W 0 (fun _ => true) true n t cs = some x → ∃ as, WT P t as ∧ VF (startG W) as cs ∧ (∀ v ∈ cs, v.oneCell' = true) ∧ cs.length = P.cellsOf t
  | 0, t, cs, x, _, h => by simp [DataW.trod] at h
  | n + 1, t, cs, x, ht, h => by
    have hq := List.all_eq_true.1 hp t ht
    split at hq
    · rename_i hu
      obtain ⟨b, rfl, _⟩ := DataW.trod_bool hu h
      exact ⟨[.bool b], .bool hu, .one .bool, by simp [Value.oneCell'], by simpa using (beq_iff_eq.1 hq).symm⟩
    · rename_i k hu
      obtain ⟨m, rfl, _, hw⟩ := DataW.trod_int hu h
      exact ⟨[.int k m], .int hu hw, .one .int, by simp [Value.oneCell'], by simpa using (beq_iff_eq.1 hq).symm⟩
    · rename_i hu
      obtain ⟨s, rfl, _, hw⟩ := DataW.trod_string hu h
      refine ⟨[.str s.data.toList], .str hu (show s.data.toList.length ≤ maxLen from by rw [Array.length_toList]; exact hw), .one ?_, by simp [Value.oneCell'], by simpa using (beq_iff_eq.1 hq).symm⟩
      have : V (startG W) (.str s.data.toList) (.string ⟨s.data.toList.toArray⟩) := .str
      simpa using this
    · rename_i e hu
      simp only [Bool.and_eq_true, decide_eq_true_eq, beq_iff_eq] at hq
      obtain ⟨⟨he, hpos⟩, hone⟩ := hq
      have he : e ∈ ts := by simpa using he
      rcases DataW.trod_slice hu h with ⟨rfl, _⟩ | ⟨a, len, cap, elems, rest, m, hm, rfl, _, _, hlc, hcap, hel, hes, hrs, _⟩
      · exact ⟨[.slice [] none], .slice hu (Nat.zero_le _) (by simp), .one .sliceNil, by simp [Value.oneCell'], by simp [hone]⟩
      · have hm : m = n := by omega
        subst hm
        by_cases hc0 : cap = 0
        · subst hc0
          have : len = 0 := by omega
          subst this
          exact ⟨[.slice [] none], .slice hu (Nat.zero_le _) (by simp), .one .sliceE, by simp [Value.oneCell'], by simp [hone]⟩
        · -- the address is a plain one
          have elem : ∀ i, i < cap → ∃ cs y, W.cells? 0 (a.add (i * P.cellsOf e)) (P.cellsOf e) = some cs ∧ DataW.trod enc P W 0 (fun _ => true) true m e cs = some y := by
            intro i hi
            rcases Nat.lt_or_ge i len with h' | h'
            · have h1 := hes i h'
              have h2 : elems[i]? ≠ none := by rw [List.getElem?_eq_getElem (by omega)]; simp
              rw [← h1] at h2
              obtain ⟨y, hy⟩ := Option.ne_none_iff_exists'.1 h2
              simp only [Option.bind_eq_some_iff] at hy
              obtain ⟨cs, h3, h4⟩ := hy
              exact ⟨cs, y, h3, h4⟩
            · obtain ⟨hrl, hrj⟩ := hrs rfl
              have h1 := hrj (i - len) (by omega)
              rw [show len + (i - len) = i by omega] at h1
              have h2 : rest[i - len]? ≠ none := by rw [List.getElem?_eq_getElem (by omega)]; simp
              rw [← h1] at h2
              obtain ⟨y, hy⟩ := Option.ne_none_iff_exists'.1 h2
              simp only [Option.bind_eq_some_iff] at hy
              obtain ⟨cs, h3, h4⟩ := hy
              exact ⟨cs, y, h3, h4⟩
          have hspot : ∃ b o, a = ⟨b, o, none⟩ := by
            obtain ⟨cs, y, h1, _⟩ := elem 0 (by omega)
            obtain ⟨g1, g2⟩ := cells_list h1
            obtain ⟨v, hv⟩ : ∃ v, cs[0]? = some v := ⟨_, List.getElem?_eq_getElem (by omega)⟩
            have := g2 0 v hv
            rw [Nat.zero_mul, Addr.add_zero', Addr.add_zero'] at this
            obtain ⟨b, o, s⟩ := a
            cases s with
            | none => exact ⟨b, o, rfl⟩
            | some s =>
              simp only [World.cell?] at this
              split at this
              · simp at this
              · cases this
          obtain ⟨b, o, rfl⟩ := hspot
          obtain ⟨xs, hxl, hxs⟩ := exists_list (n := len) (p := fun i as => WT P e as ∧ as.length = P.cellsOf e ∧ VK (startG W) as b (o + i * P.cellsOf e)) (fun i hi => by
            obtain ⟨cs, y, h1, h2⟩ := elem i (by omega)
            obtain ⟨as, g1, g2, g3, g4⟩ := trod_WT hp m e cs y he h2
            obtain ⟨k1, k2⟩ := cells_list h1
            refine ⟨as, g1, by rw [← g4, g2.length], VK.of_cells g2 g3 fun j v hj => ?_⟩
            have := k2 j v hj
            rwa [Addr.add_lit, Addr.add_lit] at this)
          refine ⟨[.slice xs none], .slice hu (by omega) (fun x hx => ?_), .one ?_, by simp [Value.oneCell'], by simp [hone]⟩
          · obtain ⟨i, hi⟩ := List.mem_iff_getElem?.1 hx
            exact (hxs i x hi).1
          · rw [← hxl]
            refine V.slice (sz := P.cellsOf e) ?_ (by omega) (fun _ h => by cases h)
            have key : ∀ (ys : List (List A)) (k : Nat), (∀ i a, ys[i]? = some a → a.length = P.cellsOf e ∧ VK (startG W) a b (o + (k + i) * P.cellsOf e)) → VS (startG W) (P.cellsOf e) ys b (o + k * P.cellsOf e) := by
              intro ys
              induction ys with
              | nil => intro k _; exact .nil
              | cons y ys ih =>
                intro k hk
                obtain ⟨q1, q2⟩ := hk 0 y rfl
                refine .cons q1 q2 ?_
                have := ih (k + 1) (fun i a hi => by have := hk (i + 1) a (by simpa using hi); rwa [show k + 1 + i = k + (i + 1) by omega])
                rwa [Nat.add_mul, Nat.one_mul, ← Nat.add_assoc] at this
            have := key xs 0 (fun i a hi => by rw [Nat.zero_add]; exact (hxs i a hi).2)
            simpa using this
    · rename_i fs hu
      simp only [Bool.and_eq_true, decide_eq_true_eq, List.all_eq_true] at hq
      obtain ⟨⟨hfs, htl⟩, hsum⟩ := hq
      obtain ⟨xs, m, hm, _, hlen, hxl, hxs⟩ := DataW.trod_struct hu h
      have hm : m = n := by omega
      subst hm
      have part : ∀ i, i < fs.toList.length → ∃ as, ∀ f, fs.toList[i]? = some f → WT P f.type as ∧ VF (startG W) as ((cs.drop f.offset).take (P.cellsOf f.type)) ∧ (∀ v ∈ (cs.drop f.offset).take (P.cellsOf f.type), v.oneCell' = true) := by
        intro i hi
        have hf : fs.toList[i]? = some fs.toList[i] := List.getElem?_eq_getElem hi
        have h1 := hxs i fs.toList[i] (by rw [← Array.getElem?_toList]; exact hf)
        have h2 : xs[i]? ≠ none := by
          rw [List.getElem?_eq_getElem (by simpa [hxl] using hi)]; simp
        rw [← h1] at h2
        obtain ⟨y, hy⟩ := Option.ne_none_iff_exists'.1 h2
        obtain ⟨as, g1, g2, g3, _⟩ := trod_WT hp m _ _ y (by simpa using hfs _ (List.mem_of_getElem? hf)) hy
        refine ⟨as, fun f hf' => ?_⟩
        rw [hf] at hf'; cases hf'
        exact ⟨g1, g2, g3⟩
      obtain ⟨ps, hpl, hps⟩ := exists_list part
      have hvf : VF (startG W) ps.flatten cs := by
        have := VF.tiles (P := P) (G := startG W) (cs := cs) (fs := fs.toList) (o := 0) (ps := ps) htl hpl (by omega) (fun i f p hf hp' => (hps i p hp' f hf).2.1)
        simpa using this
      refine ⟨ps.flatten, .struct hu hpl (fun i f p hf hp' => (hps i p hp' f hf).1), hvf, ?_, hlen⟩
      -- each cell lies in a field
      intro v hv
      have tile : ∀ (gs : List Field) (o : Nat), tilesB P o gs = true → o + (gs.map fun (f : Field) => P.cellsOf f.type).sum = cs.length → (∀ f ∈ gs, ∀ v ∈ (cs.drop f.offset).take (P.cellsOf f.type), v.oneCell' = true) → ∀ v ∈ cs.drop o, v.oneCell' = true := by
        intro gs
        induction gs with
        | nil => intro o _ hs _ v hv; simp at hs; rw [List.drop_eq_nil_of_le (by omega)] at hv; cases hv
        | cons f gs ih =>
          intro o ht hs hall v hv
          simp only [tilesB, Bool.and_eq_true, beq_iff_eq] at ht
          simp only [List.map_cons, List.sum_cons] at hs
          have e : cs.drop o = (cs.drop o).take (P.cellsOf f.type) ++ cs.drop (o + P.cellsOf f.type) := by
            rw [← List.drop_drop, List.take_append_drop]
          rw [e, List.mem_append] at hv
          rcases hv with hv | hv
          · exact hall f (by simp) v (by rw [ht.1]; exact hv)
          · exact ih _ ht.2 (by omega) (fun f hf => hall f (by simp [hf])) v hv
      refine tile fs.toList 0 htl (by omega) (fun f hf => ?_) v (by simpa using hv)
      obtain ⟨i, hi⟩ := List.mem_iff_getElem?.1 hf
      have hil : i < ps.length := by
        rw [hpl]
        rcases Nat.lt_or_ge i fs.toList.length with h' | h'
        · exact h'
        · rw [List.getElem?_eq_none h'] at hi; cases hi
      exact (hps i _ (List.getElem?_eq_getElem hil) f hi).2.2
    · cases hq
end Go.Ai

/- From a law's call in the evaluator to the row's claim. -/
namespace Go.Ai
open Go.RowKit Go.ChangeShapes Go.WideShapes

/-- an argument of a type of plain data -/
def ArgT (P : Program) (t : Nat) (a : A) : Prop := match P.underlying t with
  | some (.struct _) => ∃ as, a = .agg as ∧ WT P t as
  | _ => WT P t [a]

inductive ArgsT (P : Program) : List Nat → List A → Prop
  | nil : ArgsT P [] []
  | cons {t : Nat} {ts : List Nat} {a : A} {as : List A} : ArgT P t a → ArgsT P ts as → ArgsT P (t :: ts) (a :: as)

theorem okWide_cells {P : Program} {W : World} {base t : Nat} {v : Value} (hok : Value.okWide P W .any base t v) (hu : P.underlying t = some .bool ∨ (∃ k, P.underlying t = some (.int k)) ∨ P.underlying t = some .string ∨ ∃ e, P.underlying t = some (.slice e)) : v.cells.toList = [v] := by
  cases v with
  | agg cs =>
    rcases hu with hu | ⟨k, hu⟩ | hu | ⟨e, hu⟩ <;> simp [Value.okWide, Cell.okWide, Cell.ok, hu] at hok
  | _ => rfl

theorem VF.single_inv {G : Ghost} {as : List A} {v : Value} (h : VF G as [v]) : ∃ a, as = [a] ∧ V G a v := by
  cases h with
  | cons h hr => cases hr; exact ⟨_, rfl, h⟩

theorem arg_V {H : Type} {enc : TypeId × Value → H} {P : Program} {W : World} {ts : List Nat} (hp : plainB P ts = true) {base t : Nat} {v : Value} {d : DataW H} {ps : List MemPlace} (ht : t ∈ ts)
    (hok : Value.okWide P W .any base t v) (h : DataW.Trod enc P W 0 (fun _ => true) true t v d ps) : ∃ a, a.free ∧ V (startG W) a v ∧ ArgT P t a := by
  obtain ⟨n, h⟩ := h
  obtain ⟨as, h1, h2, h3, h4⟩ := trod_WT hp n t _ _ ht h
  have hq := List.all_eq_true.1 hp t ht
  split at hq
  · rename_i hu
    rw [okWide_cells hok (.inl hu)] at h2
    obtain ⟨a, rfl, hv⟩ := h2.single_inv
    refine ⟨a, ?_, hv, by simp only [ArgT, hu]; exact h1⟩
    generalize hl : [a] = l at h1
    cases h1 <;> simp_all
    all_goals (intro xs s e; cases e)
  · rename_i k hu
    rw [okWide_cells hok (.inr (.inl ⟨k, hu⟩))] at h2
    obtain ⟨a, rfl, hv⟩ := h2.single_inv
    refine ⟨a, ?_, hv, by simp only [ArgT, hu]; exact h1⟩
    generalize hl : [a] = l at h1
    cases h1 <;> simp_all
    all_goals (intro xs s e; cases e)
  · rename_i hu
    rw [okWide_cells hok (.inr (.inr (.inl hu)))] at h2
    obtain ⟨a, rfl, hv⟩ := h2.single_inv
    refine ⟨a, ?_, hv, by simp only [ArgT, hu]; exact h1⟩
    generalize hl : [a] = l at h1
    cases h1 <;> simp_all
    all_goals (intro xs s e; cases e)
  · rename_i e hu
    rw [okWide_cells hok (.inr (.inr (.inr ⟨e, hu⟩)))] at h2
    obtain ⟨a, rfl, hv⟩ := h2.single_inv
    refine ⟨a, ?_, hv, by simp only [ArgT, hu]; exact h1⟩
    generalize hl : [a] = l at h1
    cases h1 <;> simp_all
    all_goals (intro xs s e; cases e)
  · rename_i fs hu
    obtain ⟨cs, rfl, hcs⟩ := okWide_struct hu hok
    refine ⟨.agg as, (by intro xs s e; cases e), ?_, by simp only [ArgT, hu]; exact ⟨as, rfl, h1⟩⟩
    have : V (startG W) (.agg as) (.agg ⟨cs.toList⟩) := .agg h2 h3
    simpa using this
  · cases hq

/-- all arguments -/
theorem args_V {H : Type} {enc : TypeId × Value → H} {P : Program} {W : World} {ts : List Nat} (hp : plainB P ts = true) {base : Nat} : ∀ {tys : List Nat} {vs : List Value} {ds : List (DataW H)} {ps : List MemPlace}, (∀ t ∈ tys, t ∈ ts) →
    (∀ (j : Nat) (t : Nat) v, tys[j]? = some t → vs[j]? = some v → Value.okWide P W .any base t v) → DataW.TrodAll enc P W 0 (fun _ => true) true tys vs ds ps →
    ∃ as, (∀ a ∈ as, a.free) ∧ VF (startG W) as vs ∧ ArgsT P tys as
  | [], vs, ds, ps, _, _, h => by
    obtain ⟨rfl, rfl, rfl⟩ := trodAll_nil h
    exact ⟨[], by simp, .nil, .nil⟩
  | t :: tys, vs, ds, ps, ht, hok, h => by
    obtain ⟨v, vs1, d, ds1, a, b, rfl, rfl, rfl, h1, h2⟩ := trodAll_cons h
    obtain ⟨x, g1, g2, g3⟩ := arg_V hp (ht t (by simp)) (hok 0 t v rfl rfl) h1
    obtain ⟨as, k1, k2, k3⟩ := args_V hp (fun t h => ht t (by simp [h])) (fun j t' v' h h' => hok (j + 1) t' v' (by simpa using h) (by simpa using h')) h2
    refine ⟨x :: as, ?_, .cons g2 k2, .cons g3 k3⟩
    intro a ha
    rcases List.mem_cons.1 ha with rfl | ha
    · exact g1
    · exact k1 a ha

/-- the arguments read behind the call as they did before -/
theorem args_again {H : Type} {enc : TypeId × Value → H} {P : Program} {W W' : World} (hl : laidOutB P = true) (hb : Below W.heap.size W W') : ∀ {tys : List Nat} {vs : List Value} {ds : List (DataW H)} {ps : List MemPlace},
    (∀ t ∈ tys, P.readableRec t = true ∧ t < P.types.size) → DataW.TrodAll enc P W 0 (fun _ => true) true tys vs ds ps → DataW.TrodAll enc P W' 0 (fun b => decide (b < W.heap.size)) true tys vs ds ps
  | [], vs, ds, ps, _, h => by
    obtain ⟨rfl, rfl, rfl⟩ := trodAll_nil h
    exact trodAll_mk0
  | t :: tys, vs, ds, ps, ht, h => by
    have hlt := DataW.TrodAll.lt h
    obtain ⟨v, vs1, d, ds1, a, b, rfl, rfl, rfl, h1, h2⟩ := trodAll_cons h
    exact ⟨a, b, Below.trod hl (ht t (by simp)).1 (ht t (by simp)).2 h1 hb (fun x hx => hlt x (by simp [hx])), args_again hl hb (fun t h => ht t (by simp [h])) h2, rfl⟩

theorem law_contract {H : Type} {enc : TypeId × Value → H} {E : Env} {f : Nat} {fn : Func} {s : ChangeSpec} {apart fresh handsOn : Bool} {ts : List Nat} {tb : Nat} (hp : plainB E.P ts = true) (hl : laidOutB E.P = true)
    (hpar : (fn.params.toList.all fun t => ts.contains t && E.P.readableRec t && decide (t < E.P.types.size)) = true)
    (hres : fn.resultTypes = #[tb]) (hb : E.P.underlying tb = some .bool) (hvars : s.vars = [])
    (hspec : ∀ ds : List (DataW H), ds.length = fn.params.size → s.fn H ds = { results := [.lit (.bool true)], args := ds })
    (hlaw : ∀ as : List A, ArgsT E.P fn.params.toList as → ∃ h', callW E [] f as (fun _ => none) = some (.bool true, h'))
    {W : World} (hE : EnvOK E W.heap.size W) {base : Nat} {args : Array Value} {ds gs : List (DataW H)} {before : List MemPlace}
    (hval : ∀ (j : Nat) t v, fn.params[j]? = some t → args[j]? = some v → Value.okWide E.P W .any base t v)
    (hW : DataW.Whole enc E.P fn.params.toList s.vars apart W args.toList ds gs before) :
    Calls E.P f args W fun e W' => ∃ v, e = .returned v ∧ s.post enc E.P fn apart fresh handsOn false W args v W' := by
  have hW' := hW
  obtain ⟨p, q, hA, hV, rfl, hfz, hnd⟩ := hW
  have hmem : ∀ t ∈ fn.params.toList, t ∈ ts ∧ E.P.readableRec t = true ∧ t < E.P.types.size := by
    intro t ht
    have := List.all_eq_true.1 hpar t ht
    simp only [Bool.and_eq_true, decide_eq_true_eq] at this
    exact ⟨by simpa using this.1.1, this.1.2, this.2⟩
  obtain ⟨as, h1, h2, h3⟩ := args_V hp (fun t ht => (hmem t ht).1) (fun j t v hj hv => hval j t v (by rw [← Array.getElem?_toList]; exact hj) (by rw [← Array.getElem?_toList]; exact hv)) hA
  obtain ⟨h', hc⟩ := hlaw as h3
  rw [hvars] at hV
  obtain ⟨rfl, rfl⟩ : gs = [] ∧ q = [] := by
    cases gs with
    | nil => exact ⟨rfl, hV⟩
    | cons g r => exact absurd hV (by intro h; cases h)
  have hlen : ds.length = fn.params.size := by
    have : ∀ {tys : List Nat} {vs : List Value} {ds : List (DataW H)} {ps : List MemPlace}, DataW.TrodAll enc E.P W 0 (fun _ => true) true tys vs ds ps → ds.length = tys.length := by
      intro tys
      induction tys with
      | nil => intro vs ds ps h; obtain ⟨rfl, rfl, rfl⟩ := trodAll_nil h; rfl
      | cons t tys ih =>
        intro vs ds ps h
        obtain ⟨v, vs1, d, ds1, a, b, rfl, rfl, rfl, _, h2⟩ := trodAll_cons h
        simp [ih h2]
    rw [this hA, Array.length_toList]
  have e1 : s.fn H (ds ++ []) = { results := [.lit (.bool true)], args := ds } := by rw [List.append_nil]; exact hspec ds hlen
  have this : Calls E.P f args W fun e W' => e = .returned (.bool true) ∧ Below W.heap.size W W' := law_top hE h1 h2 hc
  refine this.mono ?_
  rintro e W' ⟨rfl, hbel⟩
  refine ⟨_, rfl, ds, [], _, [], p, [], hW', ?_, ?_, ?_, ?_, fun h => by cases h⟩
  · rw [e1, hres]; exact trodAll_mk1 (shut_bool hb true)
  · rw [e1]; exact args_again hl hbel (fun t ht => (hmem t ht).2) hA
  · rw [e1, hvars]; rfl
  · exact hbel.frame _
end Go.Ai

/- Attributes as data: values, pairs; how they lie in cells. -/
namespace Go.Ai

mutual
/-- api.Value -/
inductive Val where
  | mk (kind : Int) (s : List UInt8) (b : Bool) (n : Nat) (l : List Val) (m : List KV) (inner unk : List UInt8)
/-- api.KeyValue -/
inductive KV where
  | mk (key : List UInt8) (has : Bool) (v : Val) (unk : List UInt8)
end

/-- induction over values and pairs at once -/
theorem Val.ind2 {PV : Val → Prop} {PK : KV → Prop} (h1 : ∀ k s b n l m i u, (∀ x ∈ l, PV x) → (∀ x ∈ m, PK x) → PV (.mk k s b n l m i u)) (h2 : ∀ key has v u, PV v → PK (.mk key has v u)) : (∀ x, PV x) ∧ ∀ x, PK x :=
  ⟨fun x => Val.rec (motive_1 := PV) (motive_2 := PK) (motive_3 := fun l => ∀ x ∈ l, PV x) (motive_4 := fun l => ∀ x ∈ l, PK x) (fun k s b n l m i u hl hm => h1 k s b n l m i u hl hm) (fun k h v u hv => h2 k h v u hv)
      (by simp) (fun x xs hx hxs => List.forall_mem_cons.2 ⟨hx, hxs⟩) (by simp) (fun x xs hx hxs => List.forall_mem_cons.2 ⟨hx, hxs⟩) x,
   fun x => KV.rec (motive_1 := PV) (motive_2 := PK) (motive_3 := fun l => ∀ x ∈ l, PV x) (motive_4 := fun l => ∀ x ∈ l, PK x) (fun k s b n l m i u hl hm => h1 k s b n l m i u hl hm) (fun k h v u hv => h2 k h v u hv)
      (by simp) (fun x xs hx hxs => List.forall_mem_cons.2 ⟨hx, hxs⟩) (by simp) (fun x xs hx hxs => List.forall_mem_cons.2 ⟨hx, hxs⟩) x⟩

mutual
def encV : Val → List A
  | .mk k s b n l m i u => [.int .i64 k, .str s, .bool b, .int .u64 n, .slice (encVs l) none, .slice (encKs m) none, .str i, .str u]
def encVs : List Val → List (List A)
  | [] => []
  | x :: xs => encV x :: encVs xs
def encK : KV → List A
  | .mk k h v u => .str k :: .bool h :: (encV v ++ [.str u])
def encKs : List KV → List (List A)
  | [] => []
  | x :: xs => encK x :: encKs xs
end
theorem encVs_map (l : List Val) : encVs l = l.map encV := by
  induction l with
  | nil => rw [encVs]; rfl
  | cons x xs ih => rw [encVs, ih]; rfl
theorem encKs_map (l : List KV) : encKs l = l.map encK := by
  induction l with
  | nil => rw [encKs]; rfl
  | cons x xs ih => rw [encKs, ih]; rfl
@[simp] theorem encV_mk {k s b n l m i u} : encV (.mk k s b n l m i u) = [.int .i64 k, .str s, .bool b, .int .u64 n, .slice (l.map encV) none, .slice (m.map encK) none, .str i, .str u] := by rw [encV, encVs_map, encKs_map]
@[simp] theorem encK_mk {k h v u} : encK (.mk k h v u) = .str k :: .bool h :: (encV v ++ [.str u]) := by rw [encK]
@[simp] theorem encV_len (x : Val) : (encV x).length = 8 := by cases x; simp
@[simp] theorem encK_len (x : KV) : (encK x).length = 11 := by cases x; simp
@[simp] theorem encV_weak (x : Val) : (encV x).map A.weak1 = encV x := by cases x; simp
@[simp] theorem encK_weak (x : KV) : (encK x).map A.weak1 = encK x := by cases x; simp
@[simp] theorem encV_own (x : Val) : (encV x).map A.noOwn1 = encV x := by cases x; simp
@[simp] theorem encK_own (x : KV) : (encK x).map A.noOwn1 = encK x := by cases x; simp
@[simp] theorem encV_take (x : Val) : (encV x).take 8 = encV x := List.take_of_length_le (by simp)
@[simp] theorem encK_take (x : KV) : (encK x).take 11 = encK x := List.take_of_length_le (by simp)
@[simp] theorem encV_take2 (x : Val) (l : List A) : (encV x ++ l).take 8 = encV x := by rw [List.take_append_of_le_length (by simp), encV_take]
@[simp] theorem encV_get2 (x : Val) (l : List A) : (encV x ++ l)[8]? = l[0]? := by rw [List.getElem?_append_right (by simp)]; simp

mutual
/-- may a value be an argument? -/
def Val.wf : Val → Prop
  | .mk k s _ n l m i u => (-9223372036854775808 ≤ k ∧ k ≤ 9223372036854775807) ∧ s.length ≤ maxStr ∧ n < 18446744073709551616 ∧ l.length ≤ maxStr ∧ m.length ≤ maxStr ∧ i.length ≤ maxStr ∧ u.length ≤ maxStr ∧ Val.wfs l ∧ KV.wfs m
def Val.wfs : List Val → Prop
  | [] => True
  | x :: xs => Val.wf x ∧ Val.wfs xs
def KV.wf : KV → Prop
  | .mk k _ v u => k.length ≤ maxStr ∧ u.length ≤ maxStr ∧ Val.wf v
def KV.wfs : List KV → Prop
  | [] => True
  | x :: xs => KV.wf x ∧ KV.wfs xs
end
theorem Val.wfs_all {l : List Val} : Val.wfs l ↔ ∀ x ∈ l, x.wf := by
  induction l with
  | nil => simp [Val.wfs]
  | cons x xs ih => simp [Val.wfs, ih]
theorem KV.wfs_all {l : List KV} : KV.wfs l ↔ ∀ x ∈ l, x.wf := by
  induction l with
  | nil => simp [KV.wfs]
  | cons x xs ih => simp [KV.wfs, ih]
theorem Val.wf_mk {k s b n l m i u} : (Val.mk k s b n l m i u).wf ↔ (-9223372036854775808 ≤ k ∧ k ≤ 9223372036854775807) ∧ s.length ≤ maxStr ∧ n < 18446744073709551616 ∧ l.length ≤ maxStr ∧ m.length ≤ maxStr ∧ i.length ≤ maxStr ∧ u.length ≤ maxStr ∧
    (∀ x ∈ l, x.wf) ∧ ∀ x ∈ m, x.wf := by rw [Val.wf, Val.wfs_all, KV.wfs_all]
theorem KV.wf_mk {k h v u} : (KV.mk k h v u).wf ↔ k.length ≤ maxStr ∧ u.length ≤ maxStr ∧ v.wf := by rw [KV.wf]

/-! ### From cells to values -/
structure ValTypes (P : Program) (v k i s b u vs ks : Nat) : Prop where
  hv : (match P.underlying v with | some (.struct fs) => fs.toList.map (fun (f : Field) => f.type) == [i, s, b, u, vs, ks, s, s] | _ => false) = true
  hk : (match P.underlying k with | some (.struct fs) => fs.toList.map (fun (f : Field) => f.type) == [s, b, v, s] | _ => false) = true
  hi : P.underlying i = some (.int .i64)
  hs : P.underlying s = some .string
  hb : P.underlying b = some .bool
  hu : P.underlying u = some (.int .u64)
  hvs : P.underlying vs = some (.slice v)
  hks : P.underlying ks = some (.slice k)

theorem WT.bool_inv {P : Program} {t : Nat} {as : List A} (h : WT P t as) (hu : P.underlying t = some .bool) : ∃ b, as = [.bool b] := by
  cases h <;> simp_all
theorem WT.int_inv {P : Program} {t : Nat} {k : IntKind} {as : List A} (h : WT P t as) (hu : P.underlying t = some (.int k)) : ∃ n, as = [.int k n] ∧ k.min ≤ n ∧ n ≤ k.max := by
  cases h with
  | int h1 h2 =>
    rw [hu] at h1; cases h1
    refine ⟨_, rfl, ?_⟩
    simpa [Lit.wf] using h2
  | _ => simp_all
theorem WT.str_inv {P : Program} {t : Nat} {as : List A} (h : WT P t as) (hu : P.underlying t = some .string) : ∃ s, as = [.str s] ∧ s.length ≤ maxStr := by
  cases h with
  | str h1 h2 => exact ⟨_, rfl, h2⟩
  | _ => simp_all
theorem WT.slice_inv {P : Program} {t e : Nat} {as : List A} (h : WT P t as) (hu : P.underlying t = some (.slice e)) : ∃ xs, as = [.slice xs none] ∧ xs.length ≤ maxStr ∧ ∀ x ∈ xs, WT P e x := by
  cases h with
  | slice h1 h2 h3 => rw [hu] at h1; cases h1; exact ⟨_, rfl, h2, h3⟩
  | _ => simp_all
theorem list_map_of {α : Type} {enc : α → List A} {q : α → Prop} {xs : List (List A)} (h : ∀ x ∈ xs, ∃ a, x = enc a ∧ q a) : ∃ l : List α, xs = l.map enc ∧ ∀ a ∈ l, q a := by
  induction xs with
  | nil => exact ⟨[], rfl, by simp⟩
  | cons x xs ih =>
    obtain ⟨a, rfl, ha⟩ := h x (by simp)
    obtain ⟨l, rfl, h2⟩ := ih fun y hy => h y (by simp [hy])
    exact ⟨a :: l, rfl, List.forall_mem_cons.2 ⟨ha, h2⟩⟩
/-- a struct's pieces, by their types -/
theorem WT.parts {P : Program} {fs : Array Field} {ps : List (List A)} {tys : List Nat} (hl : ps.length = fs.toList.length) (hp : ∀ (i : Nat) (f : Field) (p : List A), fs.toList[i]? = some f → ps[i]? = some p → WT P f.type p)
    (ht : fs.toList.map (fun (f : Field) => f.type) = tys) : ps.length = tys.length ∧ ∀ (i : Nat) (t : Nat) (p : List A), tys[i]? = some t → ps[i]? = some p → WT P t p := by
  subst ht
  refine ⟨by simpa using hl, fun i t p h1 h2 => ?_⟩
  simp only [List.getElem?_map, Option.map_eq_some_iff] at h1
  obtain ⟨f, hf, rfl⟩ := h1
  exact hp i f p hf h2
theorem piece {ps : List (List A)} {i : Nat} (h : i < ps.length) : ∃ p, ps[i]? = some p := ⟨_, List.getElem?_eq_getElem h⟩

theorem WT.values {P : Program} {v k i s b u vs ks : Nat} (T : ValTypes P v k i s b u vs ks) {t : Nat} {as : List A} (h : WT P t as) :
    (t = v → ∃ x : Val, as = encV x ∧ x.wf) ∧ (t = k → ∃ x : KV, as = encK x ∧ x.wf) ∧ (t = vs → ∃ l : List Val, as = [.slice (l.map encV) none] ∧ l.length ≤ maxStr ∧ ∀ x ∈ l, x.wf) ∧
      (t = ks → ∃ l : List KV, as = [.slice (l.map encK) none] ∧ l.length ≤ maxStr ∧ ∀ x ∈ l, x.wf) := by
  obtain ⟨fv, huv, hfv⟩ : ∃ fs : Array Field, P.underlying v = some (.struct fs) ∧ fs.toList.map (fun (f : Field) => f.type) = [i, s, b, u, vs, ks, s, s] := by
    have := T.hv
    split at this
    · exact ⟨_, by assumption, by simpa using this⟩
    · cases this
  obtain ⟨fk, huk, hfk⟩ : ∃ fs : Array Field, P.underlying k = some (.struct fs) ∧ fs.toList.map (fun (f : Field) => f.type) = [s, b, v, s] := by
    have := T.hk
    split at this
    · exact ⟨_, by assumption, by simpa using this⟩
    · cases this
  induction h with
  | bool hu => refine ⟨?_, ?_, ?_, ?_⟩ <;> (rintro rfl; simp_all [T.hvs, T.hks])
  | int hu => refine ⟨?_, ?_, ?_, ?_⟩ <;> (rintro rfl; simp_all [T.hvs, T.hks])
  | str hu => refine ⟨?_, ?_, ?_, ?_⟩ <;> (rintro rfl; simp_all [T.hvs, T.hks])
  | @slice t e xs hu hlen hall ih =>
    refine ⟨(by rintro rfl; rw [huv] at hu; cases hu), (by rintro rfl; rw [huk] at hu; cases hu), ?_, ?_⟩
    · rintro rfl
      rw [T.hvs] at hu; cases hu
      obtain ⟨l, rfl, hl⟩ := list_map_of (enc := encV) (q := Val.wf) (fun x hx => (ih x hx).1 rfl)
      exact ⟨l, rfl, (by have := hlen; simp only [List.length_map] at this; exact this), hl⟩
    · rintro rfl
      rw [T.hks] at hu; cases hu
      obtain ⟨l, rfl, hl⟩ := list_map_of (enc := encK) (q := KV.wf) (fun x hx => (ih x hx).2.1 rfl)
      exact ⟨l, rfl, (by have := hlen; simp only [List.length_map] at this; exact this), hl⟩
  | @struct t fs ps hu hlen hp ih =>
    refine ⟨?_, ?_, (by rintro rfl; rw [T.hvs] at hu; cases hu), (by rintro rfl; rw [T.hks] at hu; cases hu)⟩
    · rintro rfl
      rw [huv] at hu; cases hu
      obtain ⟨h1, h2⟩ := WT.parts hlen hp hfv
      simp only [List.length_cons, List.length_nil] at h1
      have h3 : ∀ (j : Nat) (p : List A), ([i, s, b, u, vs, ks, s, s] : List Nat)[j]? = some vs → ps[j]? = some p → ∃ l : List Val, p = [.slice (l.map encV) none] ∧ l.length ≤ maxStr ∧ ∀ x ∈ l, x.wf := by
        intro j p hj hpj
        rw [← hfv, List.getElem?_map, Option.map_eq_some_iff] at hj
        obtain ⟨f, hf, hft⟩ := hj
        exact (ih j f p hf hpj).2.2.1 hft
      have h4 : ∀ (j : Nat) (p : List A), ([i, s, b, u, vs, ks, s, s] : List Nat)[j]? = some ks → ps[j]? = some p → ∃ l : List KV, p = [.slice (l.map encK) none] ∧ l.length ≤ maxStr ∧ ∀ x ∈ l, x.wf := by
        intro j p hj hpj
        rw [← hfv, List.getElem?_map, Option.map_eq_some_iff] at hj
        obtain ⟨f, hf, hft⟩ := hj
        exact (ih j f p hf hpj).2.2.2 hft
      match ps, h1, h2, h3, h4 with
      | [p0, p1, p2, p3, p4, p5, p6, p7], _, h2, h3, h4 =>
        obtain ⟨n0, rfl, w0⟩ := (h2 0 i p0 rfl rfl).int_inv T.hi
        obtain ⟨s1, rfl, w1⟩ := (h2 1 s p1 rfl rfl).str_inv T.hs
        obtain ⟨b2, rfl⟩ := (h2 2 b p2 rfl rfl).bool_inv T.hb
        obtain ⟨n3, rfl, w3⟩ := (h2 3 u p3 rfl rfl).int_inv T.hu
        obtain ⟨l4, rfl, w4, a4⟩ := h3 4 p4 rfl rfl
        obtain ⟨l5, rfl, w5, a5⟩ := h4 5 p5 rfl rfl
        obtain ⟨s6, rfl, w6⟩ := (h2 6 s p6 rfl rfl).str_inv T.hs
        obtain ⟨s7, rfl, w7⟩ := (h2 7 s p7 rfl rfl).str_inv T.hs
        simp [IntKind.min, IntKind.max, IntKind.bits, IntKind.signed] at w0 w3
        obtain ⟨m3, rfl⟩ := Int.eq_ofNat_of_zero_le w3.1
        exact ⟨.mk n0 s1 b2 m3 l4 l5 s6 s7, by simp, Val.wf_mk.2 ⟨by omega, w1, by omega, w4, w5, w6, w7, a4, a5⟩⟩
    · rintro rfl
      rw [huk] at hu; cases hu
      obtain ⟨h1, h2⟩ := WT.parts hlen hp hfk
      simp only [List.length_cons, List.length_nil] at h1
      have h3 : ∀ (j : Nat) (p : List A), ([s, b, v, s] : List Nat)[j]? = some v → ps[j]? = some p → ∃ x : Val, p = encV x ∧ x.wf := by
        intro j p hj hpj
        rw [← hfk, List.getElem?_map, Option.map_eq_some_iff] at hj
        obtain ⟨f, hf, hft⟩ := hj
        exact (ih j f p hf hpj).1 hft
      match ps, h1, h2, h3 with
      | [p0, p1, p2, p3], _, h2, h3 =>
        obtain ⟨s0, rfl, w0⟩ := (h2 0 s p0 rfl rfl).str_inv T.hs
        obtain ⟨b1, rfl⟩ := (h2 1 b p1 rfl rfl).bool_inv T.hb
        obtain ⟨x2, rfl, w2⟩ := h3 2 p2 rfl rfl
        obtain ⟨s3, rfl, w3⟩ := (h2 3 s p3 rfl rfl).str_inv T.hs
        exact ⟨.mk s0 b1 x2 s3, by simp, KV.wf_mk.2 ⟨w0, w3, w2⟩⟩
end Go.Ai

