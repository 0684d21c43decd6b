/- Part KF of the proof that a law of this program answers yes at every input: no conditions beyond the given statement. -/
import Derived.Test.YtnaifpmeejbanaaGreatDoorProg
import Derived.WalkKit
import Derived.LaidEql
import Derived.Stop.Asserts
import Derived.RowKitTokens
import Derived.Deep.LoopGhost
import Derived.Test.YtnaifpmeejbanaaGreatDoorKD
import Derived.Test.YtnaifpmeejbanaaGreatDoorKE
import Derived.Test.YtnaifpmeejbanaaGreatDoorKC
set_option linter.unusedSimpArgs false
set_option linter.unusedVariables false
set_option linter.all false
/- errors.As in this program: Go's own text of errors.As and errors.as is walked, at targets of the program's own kinds of errors. -/
namespace Go.Proofs.Tryz.AsX
open Go.RowKit Go.Extern.Stop Go.Stop Go.Extern
set_option maxHeartbeats 4000000
set_option maxRecDepth 100000

theorem as_nil (t : Value) (w : World) : Calls prog 76 #[.nilIface, t] w fun e w' => e = .returned (.bool false) ∧ w' = w := by
  go_enter func76, ntmps76
  go_wp2
  go_ret
  exact ⟨rfl, rfl⟩
theorem rlm (z : Sem Value) (f : TypeId → Addr → Nat → Nat → Sem Value) (v : Value) :
    ReflectliteValue.method z f #[v] = (do match ← ReflectliteValue.parts v with | none => z | some (t, a, fl) => f t a fl (fl % 32)) := rfl
theorem rls (v x : Value) : ReflectliteValue.set #[v, x] = (do
    let (some (dst, a, fl), some (src, b, _)) := (← ReflectliteValue.parts v, ← ReflectliteValue.parts x)
      | unsupported (.noEntry "extern/(internal/reflectlite.Value).Set.zeroValue")
    if fl / ReflectliteValue.flagAddr % 2 == 0 then unsupported (.noEntry "extern/(internal/reflectlite.Value).Set.unaddressable")
    let val ← loadVar src b
    if ← Rtype.directlyAssignable dst src then storeVar dst a val
    else if ← Rtype.implements dst src then
      if (← Rtype.kind src) == 20 then
        match val with
        | .nilIface => unsupported (.noEntry "extern/reflectlite: a nil value of one interface type handed on as a value of another")
        | _ => storeVar dst a val
      else storeVar dst a (.iface src val)
    else panicString ("reflectlite.Set: value of type " ++ (← Rtype.spelt src) ++ " is not assignable to type " ++ (← Rtype.spelt dst))
    pure (.tuple #[])) := rfl
/-- what errors.as may answer: nothing found; found, and stored at t -/
inductive Out (w : World) (t : Addr) : Option Value → Ending → World → Prop
  | no {w' : World} : Go.Ai.Ext w w' → Out w t none (.returned (.bool false)) w'
  | yes {w1 w' : World} {v : Value} : Go.Ai.Ext w w1 → w' = w1.setCell t v → Out w t (some v) (.returned (.bool true)) w'
theorem unwrapW (b o : Nat) (e : Value) (w : World) (h : w.cell? ⟨b, o + 1, none⟩ = some e) : Calls prog 169 #[.pointer (some ⟨b, o, none⟩)] w fun en w' => en = .returned e ∧ w' = w := by
  go_enter func169, ntmps169
  go_wp2
  go_ret
  exact ⟨rfl, rfl⟩
theorem unwrapF (b o : Nat) (e : Value) (w : World) (h : w.cell? ⟨b, o + 1, none⟩ = some e) : Calls prog 185 #[.pointer (some ⟨b, o, none⟩)] w fun en w' => en = .returned e ∧ w' = w := by
  go_enter func185, ntmps185
  go_wp2
  go_ret
  exact ⟨rfl, rfl⟩
theorem mKind (h : Value) (w : World) : (Go.method 337 175 (.agg #[h]) "Kind").run prog w = .ok (163, h) w := by kernel_rfl
theorem mElem (h : Value) (w : World) : (Go.method 337 175 (.agg #[h]) "Elem").run prog w = .ok (176, .agg #[h]) w := by kernel_rfl
theorem mImplements (h : Value) (w : World) : (Go.method 337 175 (.agg #[h]) "Implements").run prog w = .ok (177, .agg #[h]) w := by kernel_rfl
theorem mAssignableTo (h : Value) (w : World) : (Go.method 337 175 (.agg #[h]) "AssignableTo").run prog w = .ok (174, .agg #[h]) w := by kernel_rfl
theorem mUnwrapW (a : Addr) (w : World) : (Go.method 337 133 (.pointer (some a)) "Unwrap").run prog w = .ok (169, .pointer (some a)) w := by kernel_rfl
theorem mUnwrapF (a : Addr) (w : World) : (Go.method 337 188 (.pointer (some a)) "Unwrap").run prog w = .ok (185, .pointer (some a)) w := by kernel_rfl

theorem typeOf61 (v : Value) (w : World) : (ReflectliteType.typeOf #[.iface 61 v]).run prog w = .ok (.iface 175 (.agg #[.pointer (some ⟨2, 61, none⟩)])) w := by kernel_rfl
theorem noAs61 (v : Value) (xT : TypeId) (w : World) : (Instr.typeAssert (.iface 61 v) xT 180 true).run prog w = .ok (.tuple #[.nilIface, .bool false]) w :=
  run_typeAssert_lacksB underlying180 (by kernel_rfl) (by kernel_rfl) v xT w
theorem noUnw61 (v : Value) (xT : TypeId) (w : World) : (Instr.typeAssert (.iface 61 v) xT 183 true).run prog w = .ok (.tuple #[.nilIface, .bool false]) w :=
  run_typeAssert_lacksB underlying183 (by kernel_rfl) (by kernel_rfl) v xT w
theorem noUnws61 (v : Value) (xT : TypeId) (w : World) : (Instr.typeAssert (.iface 61 v) xT 185 true).run prog w = .ok (.tuple #[.nilIface, .bool false]) w :=
  run_typeAssert_lacksB underlying185 (by kernel_rfl) (by kernel_rfl) v xT w

theorem typeOf133 (v : Value) (w : World) : (ReflectliteType.typeOf #[.iface 133 v]).run prog w = .ok (.iface 175 (.agg #[.pointer (some ⟨2, 133, none⟩)])) w := by kernel_rfl
theorem noAs133 (v : Value) (xT : TypeId) (w : World) : (Instr.typeAssert (.iface 133 v) xT 180 true).run prog w = .ok (.tuple #[.nilIface, .bool false]) w :=
  run_typeAssert_lacksB underlying180 (by kernel_rfl) (by kernel_rfl) v xT w
theorem isUnw133 (v : Value) (xT : TypeId) (w : World) : (Instr.typeAssert (.iface 133 v) xT 183 true).run prog w = .ok (.tuple #[.iface 133 v, .bool true]) w :=
  run_typeAssert_hasB underlying183 (by kernel_rfl) v xT w

theorem typeOf188 (v : Value) (w : World) : (ReflectliteType.typeOf #[.iface 188 v]).run prog w = .ok (.iface 175 (.agg #[.pointer (some ⟨2, 188, none⟩)])) w := by kernel_rfl
theorem noAs188 (v : Value) (xT : TypeId) (w : World) : (Instr.typeAssert (.iface 188 v) xT 180 true).run prog w = .ok (.tuple #[.nilIface, .bool false]) w :=
  run_typeAssert_lacksB underlying180 (by kernel_rfl) (by kernel_rfl) v xT w
theorem isUnw188 (v : Value) (xT : TypeId) (w : World) : (Instr.typeAssert (.iface 188 v) xT 183 true).run prog w = .ok (.tuple #[.iface 188 v, .bool true]) w :=
  run_typeAssert_hasB underlying183 (by kernel_rfl) v xT w
theorem ass61_61 (w : World) : (ReflectliteType.relation "AssignableTo" ReflectliteType.assignableTo #[.agg #[.pointer (some ⟨2, 61, none⟩)], .iface 175 (.agg #[.pointer (some ⟨2, 61, none⟩)])]).run prog w = .ok (.bool true) w := by kernel_rfl
theorem ass133_61 (w : World) : (ReflectliteType.relation "AssignableTo" ReflectliteType.assignableTo #[.agg #[.pointer (some ⟨2, 133, none⟩)], .iface 175 (.agg #[.pointer (some ⟨2, 61, none⟩)])]).run prog w = .ok (.bool false) w := by kernel_rfl
theorem ass188_61 (w : World) : (ReflectliteType.relation "AssignableTo" ReflectliteType.assignableTo #[.agg #[.pointer (some ⟨2, 188, none⟩)], .iface 175 (.agg #[.pointer (some ⟨2, 61, none⟩)])]).run prog w = .ok (.bool false) w := by kernel_rfl

theorem valueOf111 (t : Addr) (w : World) : (ReflectliteValue.unpack (.iface 111 (.pointer (some t)))).run prog w
    = .ok (.agg #[.pointer (some ⟨2, 111, none⟩), .pointer (some ⟨w.heap.size, 0, none⟩), .int .u64 150]) (w.alloc (.cells #[.pointer (some t)] 111)) := by kernel_rfl
theorem type111 (a : Addr) (w : World) : (ReflectliteValue.methodAny (ReflectliteValue.valueError "reflectlite.Value.Type" 0) (fun t _ _ _ => ReflectliteType.toType t) #[.agg #[.pointer (some ⟨2, 111, none⟩), .pointer (some a), .int .u64 150]]).run prog w
    = .ok (.iface 175 (.agg #[.pointer (some ⟨2, 111, none⟩)])) w := by kernel_rfl
theorem kind111 (w : World) : ((ReflectliteType.abiMethod fun t => (fun a : Nat => Value.int IntKind.u8 (a : Int)) <$> Rtype.kind t) #[.pointer (some ⟨2, 111, none⟩)]).run prog w = .ok (.int .u8 22) w := by kernel_rfl
theorem kind61 (w : World) : ((ReflectliteType.abiMethod fun t => (fun a : Nat => Value.int IntKind.u8 (a : Int)) <$> Rtype.kind t) #[.pointer (some ⟨2, 61, none⟩)]).run prog w = .ok (.int .u8 2) w := by kernel_rfl
theorem parts111 (a : Addr) (w : World) : (ReflectliteValue.parts (.agg #[.pointer (some ⟨2, 111, none⟩), .pointer (some a), .int .u64 150])).run prog w = .ok (some (111, a, 150)) w := by kernel_rfl
theorem isNil111 (a p : Addr) (W : World) (ha : W.cell? a = some (.pointer (some p))) :
    (ReflectliteValue.method (ReflectliteValue.valueError "reflectlite.Value.IsNil" 0) ReflectliteValue.isNil #[.agg #[.pointer (some ⟨2, 111, none⟩), .pointer (some a), .int .u64 150]]).run prog W = .ok (.bool false) W := by
  rw [rlm]
  simp only [Sem.run_bind, parts111, Result.andThen]
  simp [ReflectliteValue.isNil, loadVar, isAgg, underlying, underlying111, ha, Result.andThen]
theorem elem111 (w : World) : (ReflectliteType.method ReflectliteType.elem #[.agg #[.pointer (some ⟨2, 111, none⟩)]]).run prog w = .ok (.iface 175 (.agg #[.pointer (some ⟨2, 61, none⟩)])) w := by kernel_rfl
theorem implements61 (w : World) : (ReflectliteType.relation "Implements" ReflectliteType.implements_ #[.agg #[.pointer (some ⟨2, 61, none⟩)], .iface 175 (.agg #[.pointer (some ⟨2, 29, none⟩)])]).run prog w = .ok (.bool true) w := by kernel_rfl
theorem valueOfE61 (n : Int) (w : World) : (ReflectliteValue.unpack (.iface 61 (.int .i64 n))).run prog w
    = .ok (.agg #[.pointer (some ⟨2, 61, none⟩), .pointer (some ⟨w.heap.size, 0, none⟩), .int .u64 130]) (w.alloc (.cells #[(.int .i64 n)] 61)) := by kernel_rfl
theorem elemOf111 (w : World) : (Rtype.elem? 111).run prog w = .ok (some 61) w := by kernel_rfl
theorem mk61 (p : Addr) (w : World) : (ReflectliteValue.mk 61 p ReflectliteValue.flagAddr).run prog w = .ok (.agg #[.pointer (some ⟨2, 61, none⟩), .pointer (some p), .int .u64 386]) w := by kernel_rfl
theorem elemV111 (a p : Addr) (W : World) (ha : W.cell? a = some (.pointer (some p))) :
    (ReflectliteValue.method (ReflectliteValue.valueError "reflectlite.Value.Elem" 0) ReflectliteValue.elem #[.agg #[.pointer (some ⟨2, 111, none⟩), .pointer (some a), .int .u64 150]]).run prog W
      = .ok (.agg #[.pointer (some ⟨2, 61, none⟩), .pointer (some p), .int .u64 386]) W := by
  rw [rlm]
  simp only [Sem.run_bind, parts111, Result.andThen]
  simp [ReflectliteValue.elem, loadVar, isAgg, underlying, underlying111, ha, Result.andThen, elemOf111, mk61]
theorem partsA61 (a : Addr) (w : World) : (ReflectliteValue.parts (.agg #[.pointer (some ⟨2, 61, none⟩), .pointer (some a), .int .u64 386])).run prog w = .ok (some (61, a, 386)) w := by kernel_rfl
theorem partsV61 (a : Addr) (w : World) : (ReflectliteValue.parts (.agg #[.pointer (some ⟨2, 61, none⟩), .pointer (some a), .int .u64 130])).run prog w = .ok (some (61, a, 130)) w := by kernel_rfl
theorem direct61 (w : World) : (Rtype.directlyAssignable 61 61).run prog w = .ok true w := by kernel_rfl
theorem set61 (ta b : Addr) (n : Int) (old : Value) (W : World) (hb : W.cell? b = some (.int .i64 n)) (ht : W.cell? ta = some old) (hf : W.frozen? ta = false) :
    (ReflectliteValue.set #[.agg #[.pointer (some ⟨2, 61, none⟩), .pointer (some ta), .int .u64 386], .agg #[.pointer (some ⟨2, 61, none⟩), .pointer (some b), .int .u64 130]]).run prog W
      = .ok (.tuple #[]) (W.setCell ta (.int .i64 n)) := by
  rw [rls]
  simp only [Sem.run_bind, partsA61, partsV61, Result.andThen]
  simp [ReflectliteValue.flagAddr, loadVar, isAgg, underlying, underlying61, hb, Result.andThen, direct61, storeVar, Value.cells, storeCells, Addr.add]
  rw [run_store prog W ta _ _ (by rfl)]
  simp [ht, hf]

/-- the chain of errors in memory, as errors.As goes along it for a target of type 61 -/
inductive Ch61 (w : World) : Nat → Value → Option Value → Prop
  | hit {n : Int} : Ch61 w 0 (.iface 61 (.int .i64 n)) (some (.int .i64 n))
  | where_ {b o : Nat} {e : Value} {r : Option Value} {n : Nat} : w.cell? ⟨b, o + 1, none⟩ = some e → Ch61 w n e r → Ch61 w (n + 1) (.iface 133 (.pointer (some ⟨b, o, none⟩))) r
  | field {b o : Nat} {e : Value} {r : Option Value} {n : Nat} : w.cell? ⟨b, o + 1, none⟩ = some e → Ch61 w n e r → Ch61 w (n + 1) (.iface 188 (.pointer (some ⟨b, o, none⟩))) r
  | fieldNil {b o : Nat} : w.cell? ⟨b, o + 1, none⟩ = some .nilIface → Ch61 w 0 (.iface 188 (.pointer (some ⟨b, o, none⟩))) none
  | whereNil {b o : Nat} : w.cell? ⟨b, o + 1, none⟩ = some .nilIface → Ch61 w 0 (.iface 133 (.pointer (some ⟨b, o, none⟩))) none

theorem Ch61.iface {w : World} {n : Nat} {e : Value} {r : Option Value} (h : Ch61 w n e r) : ∃ ty v, e = .iface ty v := by cases h <;> exact ⟨_, _, rfl⟩

theorem as_loop61 (e : Value) (n : Nat) (r : Option Value) (a t : Addr) (old : Value) (w : World) (tg : Value) (hch : Ch61 w n e r) (ha : w.cell? a = some (.pointer (some t))) (ht0 : w.cell? t = some old) (hf0 : w.frozen? t = false) :
    Calls prog 115 #[e, tg, .agg #[.pointer (some ⟨2, 111, none⟩), .pointer (some a), .int .u64 150], .iface 175 (.agg #[.pointer (some ⟨2, 61, none⟩)])] w fun ev w' =>
    Out w t r ev w' := by
  have hal : a.block < w.heap.size := by
    rcases Nat.lt_or_ge a.block w.heap.size with h | h
    · exact h
    · simp [World.cell?, Array.getElem?_eq_none h] at ha
  have htl : t.block < w.heap.size := by
    rcases Nat.lt_or_ge t.block w.heap.size with h | h
    · exact h
    · simp [World.cell?, Array.getElem?_eq_none h] at ht0
  have hR : ∀ wr : World, Go.Ai.Ext (w.alloc (.cells #[.pointer (some ⟨2, 111, none⟩), .pointer (some a), .int .u64 150] 152)) wr → Go.Ai.Ext w wr ∧ wr.cell? a = some (.pointer (some t)) ∧ wr.cell? t = some old ∧ wr.frozen? t = false ∧ t.block < wr.heap.size ∧
      wr.cell? ⟨w.heap.size, 0, none⟩ = some (.pointer (some ⟨2, 111, none⟩)) ∧ wr.cell? ⟨w.heap.size, 1, none⟩ = some (.pointer (some a)) ∧ wr.cell? ⟨w.heap.size, 2, none⟩ = some (.int .u64 150) := by
    intro wr h
    have h0 : Go.Ai.Ext w wr := (Go.Ai.Ext.alloc w _).trans h
    have hb : w.heap.size < (w.alloc (.cells #[.pointer (some ⟨2, 111, none⟩), .pointer (some a), .int .u64 150] 152)).heap.size := by simp
    refine ⟨h0, (World.cell?_of_block (h0.block _ hal)).trans ha, (World.cell?_of_block (h0.block _ htl)).trans ht0, (World.frozen?_of_block (h0.block _ htl)).trans hf0, Nat.lt_of_lt_of_le htl h0.size, ?_, ?_, ?_⟩
    · rw [h.cell hb]; simp
    · rw [h.cell hb]; simp
    · rw [h.cell hb]; simp
  have hTypeOf := @run_callFunc_extern prog 126 _ ReflectliteType.typeOf func126 (by kernel_rfl) (by kernel_rfl) (by kernel_rfl) (by kernel_rfl)
  have hAT := @run_callFunc_extern prog 174 _ (ReflectliteType.relation "AssignableTo" ReflectliteType.assignableTo) func174 (by kernel_rfl) (by kernel_rfl) (by kernel_rfl) (by kernel_rfl)
  have hElem := @run_callFunc_extern prog 127 _ (ReflectliteValue.method (ReflectliteValue.valueError "reflectlite.Value.Elem" 0) ReflectliteValue.elem) func127 (by kernel_rfl) (by kernel_rfl) (by kernel_rfl) (by kernel_rfl)
  have hVO := @run_callFunc_extern prog 112 _ (fun args => ReflectliteValue.unpack (args.getD 0 (.tuple #[]))) func112 (by kernel_rfl) (by kernel_rfl) (by kernel_rfl) (by kernel_rfl)
  have hSet := @run_callFunc_extern prog 128 _ ReflectliteValue.set func128 (by kernel_rfl) (by kernel_rfl) (by kernel_rfl) (by kernel_rfl)
  have mA := mAssignableTo
  have tO1 := typeOf61
  have tO2 := typeOf133
  have tO3 := typeOf188
  have as1 := ass61_61
  have as2 := ass133_61
  have as3 := ass188_61
  have nA1 := noAs61
  have nA2 := noAs133
  have nA3 := noAs188
  have u1 := noUnw61
  have u2 := isUnw133
  have u3 := isUnw188
  have us1 := noUnws61
  have mUW := mUnwrapW
  have mUF := mUnwrapF
  have vE := valueOfE61
  have enW : ∀ args w, (callFunc 169 args).run prog w = .ok (.enter 169 args) w := Go.Ai.enters_of func169 rfl (by kernel_rfl)
  have enF : ∀ args w, (callFunc 185 args).run prog w = .ok (.enter 185 args) w := Go.Ai.enters_of func185 rfl (by kernel_rfl)
  go_enter func115, ntmps115
  go_wp2
  go_loopg [0] n (fun k x wr => Ch61 w k x r ∧ Go.Ai.Ext (w.alloc (.cells #[.pointer (some ⟨2, 111, none⟩), .pointer (some a), .int .u64 150] 152)) wr)
  case atStart => exact ⟨hch, Go.Ai.Ext.refl _⟩
  case round =>
    obtain ⟨hc, hx⟩ := hrel
    obtain ⟨hx0, ca, ct, cf, hlt, c0, c1, c2⟩ := hR wr hx
    cases hc with
    | @hit x =>
      have el := elemV111 a t wr ca
      have st := set61 t ⟨wr.heap.size, 0, none⟩ x old (wr.alloc (.cells #[(.int .i64 x)] 61)) (by simp) (by rw [World.cell?_alloc_lt _ _ t hlt]; exact ct) (by rw [World.frozen?_alloc_old _ _ t (Nat.ne_of_lt hlt)]; exact cf)
      go_wp2
      go_ret
      exact .yes (hx0.trans (Go.Ai.Ext.alloc _ _)) rfl
    | @where_ b o e' _ n' he hc' =>
      have hb : b < w.heap.size := by
        rcases Nat.lt_or_ge b w.heap.size with h | h
        · exact h
        · simp [World.cell?, Array.getElem?_eq_none h] at he
      have he' : wr.cell? ⟨b, o + 1, none⟩ = some e' := (hx0.cell hb).trans he
      obtain ⟨ty, v, rfl⟩ := hc'.iface
      go_wp2_with (go_at_call 169; refine (unwrapW b o _ _ he').mono ?_; rintro en w' ⟨rfl, rfl⟩)
      go_roundg n'
      case measure => omega
      case rel => exact ⟨hc', hx⟩
    | @whereNil b o he =>
      have hb : b < w.heap.size := by
        rcases Nat.lt_or_ge b w.heap.size with h | h
        · exact h
        · simp [World.cell?, Array.getElem?_eq_none h] at he
      have he' : wr.cell? ⟨b, o + 1, none⟩ = some .nilIface := (hx0.cell hb).trans he
      go_wp2_with (go_at_call 169; refine (unwrapW b o _ _ he').mono ?_; rintro en w' ⟨rfl, rfl⟩)
      go_ret
      exact .no hx0
    | @field b o e' _ n' he hc' =>
      have hb : b < w.heap.size := by
        rcases Nat.lt_or_ge b w.heap.size with h | h
        · exact h
        · simp [World.cell?, Array.getElem?_eq_none h] at he
      have he' : wr.cell? ⟨b, o + 1, none⟩ = some e' := (hx0.cell hb).trans he
      obtain ⟨ty, v, rfl⟩ := hc'.iface
      go_wp2_with (go_at_call 185; refine (unwrapF b o _ _ he').mono ?_; rintro en w' ⟨rfl, rfl⟩)
      go_roundg n'
      case measure => omega
      case rel => exact ⟨hc', hx⟩
    | @fieldNil b o he =>
      have hb : b < w.heap.size := by
        rcases Nat.lt_or_ge b w.heap.size with h | h
        · exact h
        · simp [World.cell?, Array.getElem?_eq_none h] at he
      have he' : wr.cell? ⟨b, o + 1, none⟩ = some .nilIface := (hx0.cell hb).trans he
      go_wp2_with (go_at_call 185; refine (unwrapF b o _ _ he').mono ?_; rintro en w' ⟨rfl, rfl⟩)
      go_ret
      exact .no hx0

theorem Ch61.mono {w w' : World} (hx : Go.Ai.Ext w w') {n : Nat} {e : Value} {r : Option Value} (h : Ch61 w n e r) : Ch61 w' n e r := by
  have key : ∀ {b o : Nat} {e : Value}, w.cell? ⟨b, o, none⟩ = some e → w'.cell? ⟨b, o, none⟩ = some e := by
    intro b o e he
    have hb : b < w.heap.size := by
      rcases Nat.lt_or_ge b w.heap.size with h | h
      · exact h
      · simp [World.cell?, Array.getElem?_eq_none h] at he
    exact (hx.cell hb).trans he
  induction h with
  | hit => exact .hit
  | where_ h _ ih => exact .where_ (key h) ih
  | whereNil h => exact .whereNil (key h)
  | field h _ ih => exact .field (key h) ih
  | fieldNil h => exact .fieldNil (key h)

theorem as_61 (e : Value) (n : Nat) (r : Option Value) (t : Addr) (old : Value) (w : World) (hch : Ch61 w n e r) (hg : w.cell? ⟨0, 0, none⟩ = some (.iface 175 (.agg #[.pointer (some ⟨2, 29, none⟩)]))) (ht0 : w.cell? t = some old) (hf0 : w.frozen? t = false) :
    Calls prog 76 #[e, .iface 111 (.pointer (some t))] w fun ev w' => Out w t r ev w' := by
  have htl : t.block < w.heap.size := by
    rcases Nat.lt_or_ge t.block w.heap.size with h | h
    · exact h
    · simp [World.cell?, Array.getElem?_eq_none h] at ht0
  have h0l : 0 < w.heap.size := by
    rcases Nat.eq_zero_or_pos w.heap.size with h0 | h
    · simp [World.cell?, h0] at hg
    · exact h
  have h6 := @run_callFunc_extern prog 112 _ (fun args => ReflectliteValue.unpack (args.getD 0 (.tuple #[]))) func112 (by kernel_rfl) (by kernel_rfl) (by kernel_rfl) (by kernel_rfl)
  have h7 := @run_callFunc_extern prog 113 _ (ReflectliteValue.methodAny (ReflectliteValue.valueError "reflectlite.Value.Type" 0) (fun t _ _ _ => ReflectliteType.toType t)) func113 (by kernel_rfl) (by kernel_rfl) (by kernel_rfl) (by kernel_rfl)
  have h8 := @run_callFunc_extern prog 114 _ (ReflectliteValue.method (ReflectliteValue.valueError "reflectlite.Value.IsNil" 0) ReflectliteValue.isNil) func114 (by kernel_rfl) (by kernel_rfl) (by kernel_rfl) (by kernel_rfl)
  have h27 := @run_callFunc_extern prog 163 _ (ReflectliteType.abiMethod fun t => do pure (.int .u8 (← Rtype.kind t))) func163 (by kernel_rfl) (by kernel_rfl) (by kernel_rfl) (by kernel_rfl)
  have h37 := @run_callFunc_extern prog 176 _ (ReflectliteType.method ReflectliteType.elem) func176 (by kernel_rfl) (by kernel_rfl) (by kernel_rfl) (by kernel_rfl)
  have h38 := @run_callFunc_extern prog 177 _ (ReflectliteType.relation "Implements" ReflectliteType.implements_) func177 (by kernel_rfl) (by kernel_rfl) (by kernel_rfl) (by kernel_rfl)
  have f6 := valueOf111
  have f7 := type111
  have mK := mKind
  have mE := mElem
  have mI := mImplements
  have k27 := kind111
  have k25 := kind61
  have e27 := elem111
  have i25 := implements61
  have n8 := isNil111 ⟨w.heap.size, 0, none⟩ t ((w.alloc (.cells #[.pointer (some t)] 111)).alloc (.cells #[.pointer (some ⟨2, 111, none⟩), .pointer (some ⟨w.heap.size, 0, none⟩), .int .u64 150] 152)) (by simp)
  have hg2 : ((w.alloc (.cells #[.pointer (some t)] 111)).alloc (.cells #[.pointer (some ⟨2, 111, none⟩), .pointer (some ⟨w.heap.size, 0, none⟩), .int .u64 150] 152)).cell? ⟨0, 0, none⟩ = some (.iface 175 (.agg #[.pointer (some ⟨2, 29, none⟩)])) := by
    rw [World.cell?_alloc_lt _ _ ⟨0, 0, none⟩ (by simp), World.cell?_alloc_lt _ _ ⟨0, 0, none⟩ h0l]; exact hg
  have hx : Go.Ai.Ext w ((w.alloc (.cells #[.pointer (some t)] 111)).alloc (.cells #[.pointer (some ⟨2, 111, none⟩), .pointer (some ⟨w.heap.size, 0, none⟩), .int .u64 150] 152)) := (Go.Ai.Ext.alloc w _).trans (Go.Ai.Ext.alloc _ _)
  have hloop := as_loop61 e n r ⟨w.heap.size, 0, none⟩ t old ((w.alloc (.cells #[.pointer (some t)] 111)).alloc (.cells #[.pointer (some ⟨2, 111, none⟩), .pointer (some ⟨w.heap.size, 0, none⟩), .int .u64 150] 152)) (.iface 111 (.pointer (some t)))
    (hch.mono hx) (by simp) ((World.cell?_of_block (hx.block _ htl)).trans ht0) ((World.frozen?_of_block (hx.block _ htl)).trans hf0)
  obtain ⟨ty, v, rfl⟩ := hch.iface
  have enA : ∀ args w, (callFunc 115 args).run prog w = .ok (.enter 115 args) w := Go.Ai.enters_of func115 rfl (by kernel_rfl)
  go_enter func76, ntmps76
  go_wp2_with (go_at_call 115; refine hloop.mono ?_; rintro en w' ho)
  cases ho with
  | no hx' =>
    go_wp2
    go_ret
    exact .no (hx.trans hx')
  | yes hx' he =>
    subst he
    go_wp2
    go_ret
    exact .yes (hx.trans hx') rfl
theorem ass61_133 (w : World) : (ReflectliteType.relation "AssignableTo" ReflectliteType.assignableTo #[.agg #[.pointer (some ⟨2, 61, none⟩)], .iface 175 (.agg #[.pointer (some ⟨2, 133, none⟩)])]).run prog w = .ok (.bool false) w := by kernel_rfl
theorem ass133_133 (w : World) : (ReflectliteType.relation "AssignableTo" ReflectliteType.assignableTo #[.agg #[.pointer (some ⟨2, 133, none⟩)], .iface 175 (.agg #[.pointer (some ⟨2, 133, none⟩)])]).run prog w = .ok (.bool true) w := by kernel_rfl
theorem ass188_133 (w : World) : (ReflectliteType.relation "AssignableTo" ReflectliteType.assignableTo #[.agg #[.pointer (some ⟨2, 188, none⟩)], .iface 175 (.agg #[.pointer (some ⟨2, 133, none⟩)])]).run prog w = .ok (.bool false) w := by kernel_rfl

theorem valueOf134 (t : Addr) (w : World) : (ReflectliteValue.unpack (.iface 134 (.pointer (some t)))).run prog w
    = .ok (.agg #[.pointer (some ⟨2, 134, none⟩), .pointer (some ⟨w.heap.size, 0, none⟩), .int .u64 150]) (w.alloc (.cells #[.pointer (some t)] 134)) := by kernel_rfl
theorem type134 (a : Addr) (w : World) : (ReflectliteValue.methodAny (ReflectliteValue.valueError "reflectlite.Value.Type" 0) (fun t _ _ _ => ReflectliteType.toType t) #[.agg #[.pointer (some ⟨2, 134, none⟩), .pointer (some a), .int .u64 150]]).run prog w
    = .ok (.iface 175 (.agg #[.pointer (some ⟨2, 134, none⟩)])) w := by kernel_rfl
theorem kind134 (w : World) : ((ReflectliteType.abiMethod fun t => (fun a : Nat => Value.int IntKind.u8 (a : Int)) <$> Rtype.kind t) #[.pointer (some ⟨2, 134, none⟩)]).run prog w = .ok (.int .u8 22) w := by kernel_rfl
theorem kind133 (w : World) : ((ReflectliteType.abiMethod fun t => (fun a : Nat => Value.int IntKind.u8 (a : Int)) <$> Rtype.kind t) #[.pointer (some ⟨2, 133, none⟩)]).run prog w = .ok (.int .u8 22) w := by kernel_rfl
theorem parts134 (a : Addr) (w : World) : (ReflectliteValue.parts (.agg #[.pointer (some ⟨2, 134, none⟩), .pointer (some a), .int .u64 150])).run prog w = .ok (some (134, a, 150)) w := by kernel_rfl
theorem isNil134 (a p : Addr) (W : World) (ha : W.cell? a = some (.pointer (some p))) :
    (ReflectliteValue.method (ReflectliteValue.valueError "reflectlite.Value.IsNil" 0) ReflectliteValue.isNil #[.agg #[.pointer (some ⟨2, 134, none⟩), .pointer (some a), .int .u64 150]]).run prog W = .ok (.bool false) W := by
  rw [rlm]
  simp only [Sem.run_bind, parts134, Result.andThen]
  simp [ReflectliteValue.isNil, loadVar, isAgg, underlying, underlying134, ha, Result.andThen]
theorem elem134 (w : World) : (ReflectliteType.method ReflectliteType.elem #[.agg #[.pointer (some ⟨2, 134, none⟩)]]).run prog w = .ok (.iface 175 (.agg #[.pointer (some ⟨2, 133, none⟩)])) w := by kernel_rfl
theorem implements133 (w : World) : (ReflectliteType.relation "Implements" ReflectliteType.implements_ #[.agg #[.pointer (some ⟨2, 133, none⟩)], .iface 175 (.agg #[.pointer (some ⟨2, 29, none⟩)])]).run prog w = .ok (.bool true) w := by kernel_rfl
theorem valueOfE133 (p : Addr) (w : World) : (ReflectliteValue.unpack (.iface 133 (.pointer (some p)))).run prog w
    = .ok (.agg #[.pointer (some ⟨2, 133, none⟩), .pointer (some ⟨w.heap.size, 0, none⟩), .int .u64 150]) (w.alloc (.cells #[(.pointer (some p))] 133)) := by kernel_rfl
theorem elemOf134 (w : World) : (Rtype.elem? 134).run prog w = .ok (some 133) w := by kernel_rfl
theorem mk133 (p : Addr) (w : World) : (ReflectliteValue.mk 133 p ReflectliteValue.flagAddr).run prog w = .ok (.agg #[.pointer (some ⟨2, 133, none⟩), .pointer (some p), .int .u64 406]) w := by kernel_rfl
theorem elemV134 (a p : Addr) (W : World) (ha : W.cell? a = some (.pointer (some p))) :
    (ReflectliteValue.method (ReflectliteValue.valueError "reflectlite.Value.Elem" 0) ReflectliteValue.elem #[.agg #[.pointer (some ⟨2, 134, none⟩), .pointer (some a), .int .u64 150]]).run prog W
      = .ok (.agg #[.pointer (some ⟨2, 133, none⟩), .pointer (some p), .int .u64 406]) W := by
  rw [rlm]
  simp only [Sem.run_bind, parts134, Result.andThen]
  simp [ReflectliteValue.elem, loadVar, isAgg, underlying, underlying134, ha, Result.andThen, elemOf134, mk133]
theorem partsA133 (a : Addr) (w : World) : (ReflectliteValue.parts (.agg #[.pointer (some ⟨2, 133, none⟩), .pointer (some a), .int .u64 406])).run prog w = .ok (some (133, a, 406)) w := by kernel_rfl
theorem partsV133 (a : Addr) (w : World) : (ReflectliteValue.parts (.agg #[.pointer (some ⟨2, 133, none⟩), .pointer (some a), .int .u64 150])).run prog w = .ok (some (133, a, 150)) w := by kernel_rfl
theorem direct133 (w : World) : (Rtype.directlyAssignable 133 133).run prog w = .ok true w := by kernel_rfl
theorem set133 (ta b : Addr) (p : Addr) (old : Value) (W : World) (hb : W.cell? b = some (.pointer (some p))) (ht : W.cell? ta = some old) (hf : W.frozen? ta = false) :
    (ReflectliteValue.set #[.agg #[.pointer (some ⟨2, 133, none⟩), .pointer (some ta), .int .u64 406], .agg #[.pointer (some ⟨2, 133, none⟩), .pointer (some b), .int .u64 150]]).run prog W
      = .ok (.tuple #[]) (W.setCell ta (.pointer (some p))) := by
  rw [rls]
  simp only [Sem.run_bind, partsA133, partsV133, Result.andThen]
  simp [ReflectliteValue.flagAddr, loadVar, isAgg, underlying, underlying133, hb, Result.andThen, direct133, storeVar, Value.cells, storeCells, Addr.add]
  rw [run_store prog W ta _ _ (by rfl)]
  simp [ht, hf]

/-- the chain of errors in memory, as errors.As goes along it for a target of type 133 -/
inductive Ch133 (w : World) : Nat → Value → Option Value → Prop
  | hit {p : Addr} : Ch133 w 0 (.iface 133 (.pointer (some p))) (some (.pointer (some p)))
  | code {v : Value} : Ch133 w 0 (.iface 61 v) none
  | field {b o : Nat} {e : Value} {r : Option Value} {n : Nat} : w.cell? ⟨b, o + 1, none⟩ = some e → Ch133 w n e r → Ch133 w (n + 1) (.iface 188 (.pointer (some ⟨b, o, none⟩))) r
  | fieldNil {b o : Nat} : w.cell? ⟨b, o + 1, none⟩ = some .nilIface → Ch133 w 0 (.iface 188 (.pointer (some ⟨b, o, none⟩))) none

theorem Ch133.iface {w : World} {n : Nat} {e : Value} {r : Option Value} (h : Ch133 w n e r) : ∃ ty v, e = .iface ty v := by cases h <;> exact ⟨_, _, rfl⟩

theorem as_loop133 (e : Value) (n : Nat) (r : Option Value) (a t : Addr) (old : Value) (w : World) (tg : Value) (hch : Ch133 w n e r) (ha : w.cell? a = some (.pointer (some t))) (ht0 : w.cell? t = some old) (hf0 : w.frozen? t = false) :
    Calls prog 115 #[e, tg, .agg #[.pointer (some ⟨2, 134, none⟩), .pointer (some a), .int .u64 150], .iface 175 (.agg #[.pointer (some ⟨2, 133, none⟩)])] w fun ev w' =>
    Out w t r ev w' := by
  have hal : a.block < w.heap.size := by
    rcases Nat.lt_or_ge a.block w.heap.size with h | h
    · exact h
    · simp [World.cell?, Array.getElem?_eq_none h] at ha
  have htl : t.block < w.heap.size := by
    rcases Nat.lt_or_ge t.block w.heap.size with h | h
    · exact h
    · simp [World.cell?, Array.getElem?_eq_none h] at ht0
  have hR : ∀ wr : World, Go.Ai.Ext (w.alloc (.cells #[.pointer (some ⟨2, 134, none⟩), .pointer (some a), .int .u64 150] 152)) wr → Go.Ai.Ext w wr ∧ wr.cell? a = some (.pointer (some t)) ∧ wr.cell? t = some old ∧ wr.frozen? t = false ∧ t.block < wr.heap.size ∧
      wr.cell? ⟨w.heap.size, 0, none⟩ = some (.pointer (some ⟨2, 134, none⟩)) ∧ wr.cell? ⟨w.heap.size, 1, none⟩ = some (.pointer (some a)) ∧ wr.cell? ⟨w.heap.size, 2, none⟩ = some (.int .u64 150) := by
    intro wr h
    have h0 : Go.Ai.Ext w wr := (Go.Ai.Ext.alloc w _).trans h
    have hb : w.heap.size < (w.alloc (.cells #[.pointer (some ⟨2, 134, none⟩), .pointer (some a), .int .u64 150] 152)).heap.size := by simp
    refine ⟨h0, (World.cell?_of_block (h0.block _ hal)).trans ha, (World.cell?_of_block (h0.block _ htl)).trans ht0, (World.frozen?_of_block (h0.block _ htl)).trans hf0, Nat.lt_of_lt_of_le htl h0.size, ?_, ?_, ?_⟩
    · rw [h.cell hb]; simp
    · rw [h.cell hb]; simp
    · rw [h.cell hb]; simp
  have hTypeOf := @run_callFunc_extern prog 126 _ ReflectliteType.typeOf func126 (by kernel_rfl) (by kernel_rfl) (by kernel_rfl) (by kernel_rfl)
  have hAT := @run_callFunc_extern prog 174 _ (ReflectliteType.relation "AssignableTo" ReflectliteType.assignableTo) func174 (by kernel_rfl) (by kernel_rfl) (by kernel_rfl) (by kernel_rfl)
  have hElem := @run_callFunc_extern prog 127 _ (ReflectliteValue.method (ReflectliteValue.valueError "reflectlite.Value.Elem" 0) ReflectliteValue.elem) func127 (by kernel_rfl) (by kernel_rfl) (by kernel_rfl) (by kernel_rfl)
  have hVO := @run_callFunc_extern prog 112 _ (fun args => ReflectliteValue.unpack (args.getD 0 (.tuple #[]))) func112 (by kernel_rfl) (by kernel_rfl) (by kernel_rfl) (by kernel_rfl)
  have hSet := @run_callFunc_extern prog 128 _ ReflectliteValue.set func128 (by kernel_rfl) (by kernel_rfl) (by kernel_rfl) (by kernel_rfl)
  have mA := mAssignableTo
  have tO1 := typeOf61
  have tO2 := typeOf133
  have tO3 := typeOf188
  have as1 := ass61_133
  have as2 := ass133_133
  have as3 := ass188_133
  have nA1 := noAs61
  have nA2 := noAs133
  have nA3 := noAs188
  have u1 := noUnw61
  have u2 := isUnw133
  have u3 := isUnw188
  have us1 := noUnws61
  have mUW := mUnwrapW
  have mUF := mUnwrapF
  have vE := valueOfE133
  have enW : ∀ args w, (callFunc 169 args).run prog w = .ok (.enter 169 args) w := Go.Ai.enters_of func169 rfl (by kernel_rfl)
  have enF : ∀ args w, (callFunc 185 args).run prog w = .ok (.enter 185 args) w := Go.Ai.enters_of func185 rfl (by kernel_rfl)
  go_enter func115, ntmps115
  go_wp2
  go_loopg [0] n (fun k x wr => Ch133 w k x r ∧ Go.Ai.Ext (w.alloc (.cells #[.pointer (some ⟨2, 134, none⟩), .pointer (some a), .int .u64 150] 152)) wr)
  case atStart => exact ⟨hch, Go.Ai.Ext.refl _⟩
  case round =>
    obtain ⟨hc, hx⟩ := hrel
    obtain ⟨hx0, ca, ct, cf, hlt, c0, c1, c2⟩ := hR wr hx
    cases hc with
    | @hit x =>
      have el := elemV134 a t wr ca
      have st := set133 t ⟨wr.heap.size, 0, none⟩ x old (wr.alloc (.cells #[(.pointer (some x))] 133)) (by simp) (by rw [World.cell?_alloc_lt _ _ t hlt]; exact ct) (by rw [World.frozen?_alloc_old _ _ t (Nat.ne_of_lt hlt)]; exact cf)
      go_wp2
      go_ret
      exact .yes (hx0.trans (Go.Ai.Ext.alloc _ _)) rfl
    | code =>
      go_wp2
      go_ret
      exact .no hx0
    | @field b o e' _ n' he hc' =>
      have hb : b < w.heap.size := by
        rcases Nat.lt_or_ge b w.heap.size with h | h
        · exact h
        · simp [World.cell?, Array.getElem?_eq_none h] at he
      have he' : wr.cell? ⟨b, o + 1, none⟩ = some e' := (hx0.cell hb).trans he
      obtain ⟨ty, v, rfl⟩ := hc'.iface
      go_wp2_with (go_at_call 185; refine (unwrapF b o _ _ he').mono ?_; rintro en w' ⟨rfl, rfl⟩)
      go_roundg n'
      case measure => omega
      case rel => exact ⟨hc', hx⟩
    | @fieldNil b o he =>
      have hb : b < w.heap.size := by
        rcases Nat.lt_or_ge b w.heap.size with h | h
        · exact h
        · simp [World.cell?, Array.getElem?_eq_none h] at he
      have he' : wr.cell? ⟨b, o + 1, none⟩ = some .nilIface := (hx0.cell hb).trans he
      go_wp2_with (go_at_call 185; refine (unwrapF b o _ _ he').mono ?_; rintro en w' ⟨rfl, rfl⟩)
      go_ret
      exact .no hx0

theorem Ch133.mono {w w' : World} (hx : Go.Ai.Ext w w') {n : Nat} {e : Value} {r : Option Value} (h : Ch133 w n e r) : Ch133 w' n e r := by
  have key : ∀ {b o : Nat} {e : Value}, w.cell? ⟨b, o, none⟩ = some e → w'.cell? ⟨b, o, none⟩ = some e := by
    intro b o e he
    have hb : b < w.heap.size := by
      rcases Nat.lt_or_ge b w.heap.size with h | h
      · exact h
      · simp [World.cell?, Array.getElem?_eq_none h] at he
    exact (hx.cell hb).trans he
  induction h with
  | hit => exact .hit
  | code => exact .code
  | field h _ ih => exact .field (key h) ih
  | fieldNil h => exact .fieldNil (key h)

theorem as_133 (e : Value) (n : Nat) (r : Option Value) (t : Addr) (old : Value) (w : World) (hch : Ch133 w n e r) (hg : w.cell? ⟨0, 0, none⟩ = some (.iface 175 (.agg #[.pointer (some ⟨2, 29, none⟩)]))) (ht0 : w.cell? t = some old) (hf0 : w.frozen? t = false) :
    Calls prog 76 #[e, .iface 134 (.pointer (some t))] w fun ev w' => Out w t r ev w' := by
  have htl : t.block < w.heap.size := by
    rcases Nat.lt_or_ge t.block w.heap.size with h | h
    · exact h
    · simp [World.cell?, Array.getElem?_eq_none h] at ht0
  have h0l : 0 < w.heap.size := by
    rcases Nat.eq_zero_or_pos w.heap.size with h0 | h
    · simp [World.cell?, h0] at hg
    · exact h
  have h6 := @run_callFunc_extern prog 112 _ (fun args => ReflectliteValue.unpack (args.getD 0 (.tuple #[]))) func112 (by kernel_rfl) (by kernel_rfl) (by kernel_rfl) (by kernel_rfl)
  have h7 := @run_callFunc_extern prog 113 _ (ReflectliteValue.methodAny (ReflectliteValue.valueError "reflectlite.Value.Type" 0) (fun t _ _ _ => ReflectliteType.toType t)) func113 (by kernel_rfl) (by kernel_rfl) (by kernel_rfl) (by kernel_rfl)
  have h8 := @run_callFunc_extern prog 114 _ (ReflectliteValue.method (ReflectliteValue.valueError "reflectlite.Value.IsNil" 0) ReflectliteValue.isNil) func114 (by kernel_rfl) (by kernel_rfl) (by kernel_rfl) (by kernel_rfl)
  have h27 := @run_callFunc_extern prog 163 _ (ReflectliteType.abiMethod fun t => do pure (.int .u8 (← Rtype.kind t))) func163 (by kernel_rfl) (by kernel_rfl) (by kernel_rfl) (by kernel_rfl)
  have h37 := @run_callFunc_extern prog 176 _ (ReflectliteType.method ReflectliteType.elem) func176 (by kernel_rfl) (by kernel_rfl) (by kernel_rfl) (by kernel_rfl)
  have h38 := @run_callFunc_extern prog 177 _ (ReflectliteType.relation "Implements" ReflectliteType.implements_) func177 (by kernel_rfl) (by kernel_rfl) (by kernel_rfl) (by kernel_rfl)
  have f6 := valueOf134
  have f7 := type134
  have mK := mKind
  have mE := mElem
  have mI := mImplements
  have k27 := kind134
  have k25 := kind133
  have e27 := elem134
  have i25 := implements133
  have n8 := isNil134 ⟨w.heap.size, 0, none⟩ t ((w.alloc (.cells #[.pointer (some t)] 134)).alloc (.cells #[.pointer (some ⟨2, 134, none⟩), .pointer (some ⟨w.heap.size, 0, none⟩), .int .u64 150] 152)) (by simp)
  have hg2 : ((w.alloc (.cells #[.pointer (some t)] 134)).alloc (.cells #[.pointer (some ⟨2, 134, none⟩), .pointer (some ⟨w.heap.size, 0, none⟩), .int .u64 150] 152)).cell? ⟨0, 0, none⟩ = some (.iface 175 (.agg #[.pointer (some ⟨2, 29, none⟩)])) := by
    rw [World.cell?_alloc_lt _ _ ⟨0, 0, none⟩ (by simp), World.cell?_alloc_lt _ _ ⟨0, 0, none⟩ h0l]; exact hg
  have hx : Go.Ai.Ext w ((w.alloc (.cells #[.pointer (some t)] 134)).alloc (.cells #[.pointer (some ⟨2, 134, none⟩), .pointer (some ⟨w.heap.size, 0, none⟩), .int .u64 150] 152)) := (Go.Ai.Ext.alloc w _).trans (Go.Ai.Ext.alloc _ _)
  have hloop := as_loop133 e n r ⟨w.heap.size, 0, none⟩ t old ((w.alloc (.cells #[.pointer (some t)] 134)).alloc (.cells #[.pointer (some ⟨2, 134, none⟩), .pointer (some ⟨w.heap.size, 0, none⟩), .int .u64 150] 152)) (.iface 134 (.pointer (some t)))
    (hch.mono hx) (by simp) ((World.cell?_of_block (hx.block _ htl)).trans ht0) ((World.frozen?_of_block (hx.block _ htl)).trans hf0)
  obtain ⟨ty, v, rfl⟩ := hch.iface
  have enA : ∀ args w, (callFunc 115 args).run prog w = .ok (.enter 115 args) w := Go.Ai.enters_of func115 rfl (by kernel_rfl)
  go_enter func76, ntmps76
  go_wp2_with (go_at_call 115; refine hloop.mono ?_; rintro en w' ho)
  cases ho with
  | no hx' =>
    go_wp2
    go_ret
    exact .no (hx.trans hx')
  | yes hx' he =>
    subst he
    go_wp2
    go_ret
    exact .yes (hx.trans hx') rfl

theorem to61 {w : World} {e : Value} {r : Option Value} (h : Go.Ai.Ch 61 133 188 61 w e r) : (e = .nilIface ∧ r = none) ∨ ∃ n, Ch61 w n e r := by
  induction h with
  | nil => exact .inl ⟨rfl, rfl⟩
  | hitC _ => exact .inr ⟨0, .hit⟩
  | hitW h => exact absurd rfl h
  | miss h => exact absurd rfl h
  | step hor _ _ hc _ ih =>
    rcases hor with rfl | rfl
    · rcases ih with ⟨rfl, rfl⟩ | ⟨n, hn⟩
      · exact .inr ⟨0, .whereNil hc⟩
      · exact .inr ⟨n + 1, .where_ hc hn⟩
    · rcases ih with ⟨rfl, rfl⟩ | ⟨n, hn⟩
      · exact .inr ⟨0, .fieldNil hc⟩
      · exact .inr ⟨n + 1, .field hc hn⟩
theorem to133 {w : World} {e : Value} {r : Option Value} (h : Go.Ai.Ch 61 133 188 133 w e r) : (e = .nilIface ∧ r = none) ∨ ∃ n, Ch133 w n e r := by
  induction h with
  | nil => exact .inl ⟨rfl, rfl⟩
  | hitC h => cases h
  | hitW _ => exact .inr ⟨0, .hit⟩
  | miss _ => exact .inr ⟨0, .code⟩
  | step hor hne _ hc _ ih =>
    rcases hor with rfl | rfl
    · exact absurd rfl hne
    · rcases ih with ⟨rfl, rfl⟩ | ⟨n, hn⟩
      · exact .inr ⟨0, .fieldNil hc⟩
      · exact .inr ⟨n + 1, .field hc hn⟩
theorem Out.as {w w' : World} {t : Addr} {r : Option Value} {e : Ending} (h : Out w t r e w') : Go.Ai.AsOut w t r e w' := by
  cases h with
  | no h => exact .no h
  | yes h1 h2 => exact .yes h1 h2
theorem as_ok (q : Nat × Nat) (hq : q ∈ [(111, 61), (134, 133)]) (e : Value) (r : Option Value) (t : Addr) (old : Value) (w : World) (hch : Go.Ai.Ch 61 133 188 q.2 w e r)
    (hg : w.cell? ⟨0, 0, none⟩ = some (.iface 175 (.agg #[.pointer (some ⟨2, 29, none⟩)]))) (ht0 : w.cell? t = some old) (hf0 : w.frozen? t = false) :
    Calls prog 76 #[e, .iface q.1 (.pointer (some t))] w fun ev w' => Go.Ai.AsOut w t r ev w' := by
  simp only [List.mem_cons, List.not_mem_nil, or_false] at hq
  have hnil : Calls prog 76 #[.nilIface, .iface q.1 (.pointer (some t))] w fun ev w' => Go.Ai.AsOut w t none ev w' :=
    (as_nil _ w).mono fun ev w' h => by obtain ⟨rfl, rfl⟩ := h; exact .no (Go.Ai.Ext.refl _)
  rcases hq with rfl | rfl
  · rcases to61 hch with ⟨rfl, rfl⟩ | ⟨n, hn⟩
    · exact hnil
    · exact (as_61 e n r t old w hn hg ht0 hf0).mono fun _ _ h => h.as
  · rcases to133 hch with ⟨rfl, rfl⟩ | ⟨n, hn⟩
    · exact hnil
    · exact (as_133 e n r t old w hn hg ht0 hf0).mono fun _ _ h => h.as
end Go.Proofs.Tryz.AsX

/- The environment of the evaluator is sound for this program, at worlds where errors.errorType is laid. -/
namespace Go.Ai.T
set_option maxRecDepth 100000
open Go
theorem en {f : Nat} {fn : Func} {code : Code} (hf : Go.Proofs.Tryz.prog.funcs[f]? = some fn) (hb : fn.body = some code) (hn : (fn.name == "runtime.NumGoroutine") = false) : Enters E.P f := enters_of hf hb hn
theorem env8_ok {W : World} (hg : W.cell? ⟨0, 0, none⟩ = some (.iface 175 (.agg #[.pointer (some ⟨2, 29, none⟩)]))) : EnvOK E W.heap.size W := by
  have h0 : 0 < W.heap.size := by
    rcases Nat.eq_zero_or_pos W.heap.size with h0 | h
    · simp [World.cell?, h0] at hg
    · exact h
  refine env_ok envB_ok ?_ ?_
  · intro f g hfg
    simp only [E, prim] at hfg
    split at hfg <;> first | (cases hfg; first | exact errorsAs_dom _ _ _ _ | exact builderString_dom _ | exact stringsJoin_dom | exact builderCheck_dom _) | cases hfg
  · intro f g hfg
    simp only [E, prim] at hfg
    split at hfg
    · cases hfg
      exact errorsAs_ok (en Go.Proofs.Tryz.func76 rfl (by kernel_rfl)) h0 hg Go.Proofs.Tryz.AsX.as_ok
    · cases hfg
      exact builderString_ok (en Go.Proofs.Tryz.func81 rfl (by kernel_rfl)) Go.Proofs.Tryz.string_nil Go.Proofs.Tryz.string_zero Go.Proofs.Tryz.string_room Go.Proofs.Tryz.string_some
    · cases hfg
      exact stringsJoin_ok (en Go.Proofs.Tryz.func85 rfl (by kernel_rfl)) Go.Proofs.Tryz.strings_Join_none Go.Proofs.Tryz.strings_Join
    · cases hfg
      refine builderCheck_ok (en Go.Proofs.Tryz.func119 rfl (by kernel_rfl)) Go.Proofs.Tryz.check_used ?_
      intro b w t ht h1 h2 h3
      simp only [List.contains_eq_mem, List.mem_cons, List.not_mem_nil, or_false, decide_eq_true_eq] at ht
      rcases ht with rfl | rfl
      · exact Go.Proofs.Tryz.check_fresh b w _ h1 h2 Go.Proofs.Tryz.lies_119 h3
      · exact Go.Proofs.Tryz.check_fresh b w _ h1 h2 Go.Proofs.Tryz.lies_139 h3
    · cases hfg
end Go.Ai.T

