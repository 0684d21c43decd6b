/- Part KF of the proof that a law of this program answers yes at every input: no conditions beyond the given statement. -/
import Derived.Test.YtidkidjjncmciaaGreatDoorProg
import Derived.WalkKit
import Derived.LaidEql
import Derived.Stop.Asserts
import Derived.RowKitTokens
import Derived.Deep.LoopGhost
import Derived.Test.YtidkidjjncmciaaGreatDoorKD
import Derived.Test.YtidkidjjncmciaaGreatDoorKE
import Derived.Test.YtidkidjjncmciaaGreatDoorKC
set_option linter.unusedSimpArgs false
set_option linter.unusedVariables false
set_option linter.all false
/- errors.As in this program: Go's own text of errors.As and errors.as is walked, at targets of the program's own kinds of errors. -/
namespace Go.Proofs.Tryz.AsX
open Go.RowKit Go.Extern.Stop Go.Stop Go.Extern
set_option maxHeartbeats 4000000
set_option maxRecDepth 100000

theorem as_nil (t : Value) (w : World) : Calls prog 55 #[.nilIface, t] w fun e w' => e = .returned (.bool false) ∧ w' = w := by
  go_enter func55, ntmps55
  go_wp2
  go_ret
  exact ⟨rfl, rfl⟩
theorem rlm (z : Sem Value) (f : TypeId → Addr → Nat → Nat → Sem Value) (v : Value) :
    ReflectliteValue.method z f #[v] = (do match ← ReflectliteValue.parts v with | none => z | some (t, a, fl) => f t a fl (fl % 32)) := rfl
theorem rls (v x : Value) : ReflectliteValue.set #[v, x] = (do
    let (some (dst, a, fl), some (src, b, _)) := (← ReflectliteValue.parts v, ← ReflectliteValue.parts x)
      | unsupported (.noEntry "extern/(internal/reflectlite.Value).Set.zeroValue")
    if fl / ReflectliteValue.flagAddr % 2 == 0 then unsupported (.noEntry "extern/(internal/reflectlite.Value).Set.unaddressable")
    let val ← loadVar src b
    if ← Rtype.directlyAssignable dst src then storeVar dst a val
    else if ← Rtype.implements dst src then
      if (← Rtype.kind src) == 20 then
        match val with
        | .nilIface => unsupported (.noEntry "extern/reflectlite: a nil value of one interface type handed on as a value of another")
        | _ => storeVar dst a val
      else storeVar dst a (.iface src val)
    else panicString ("reflectlite.Set: value of type " ++ (← Rtype.spelt src) ++ " is not assignable to type " ++ (← Rtype.spelt dst))
    pure (.tuple #[])) := rfl
/-- what errors.as may answer: nothing found; found, and stored at t -/
inductive Out (w : World) (t : Addr) : Option Value → Ending → World → Prop
  | no {w' : World} : Go.Ai.Ext w w' → Out w t none (.returned (.bool false)) w'
  | yes {w1 w' : World} {v : Value} : Go.Ai.Ext w w1 → w' = w1.setCell t v → Out w t (some v) (.returned (.bool true)) w'
theorem unwrapW (b o : Nat) (e : Value) (w : World) (h : w.cell? ⟨b, o + 1, none⟩ = some e) : Calls prog 184 #[.pointer (some ⟨b, o, none⟩)] w fun en w' => en = .returned e ∧ w' = w := by
  go_enter func184, ntmps184
  go_wp2
  go_ret
  exact ⟨rfl, rfl⟩
theorem unwrapF (b o : Nat) (e : Value) (w : World) (h : w.cell? ⟨b, o + 1, none⟩ = some e) : Calls prog 200 #[.pointer (some ⟨b, o, none⟩)] w fun en w' => en = .returned e ∧ w' = w := by
  go_enter func200, ntmps200
  go_wp2
  go_ret
  exact ⟨rfl, rfl⟩
theorem mKind (h : Value) (w : World) : (Go.method 349 175 (.agg #[h]) "Kind").run prog w = .ok (178, h) w := by kernel_rfl
theorem mElem (h : Value) (w : World) : (Go.method 349 175 (.agg #[h]) "Elem").run prog w = .ok (191, .agg #[h]) w := by kernel_rfl
theorem mImplements (h : Value) (w : World) : (Go.method 349 175 (.agg #[h]) "Implements").run prog w = .ok (192, .agg #[h]) w := by kernel_rfl
theorem mAssignableTo (h : Value) (w : World) : (Go.method 349 175 (.agg #[h]) "AssignableTo").run prog w = .ok (189, .agg #[h]) w := by kernel_rfl
theorem mUnwrapW (a : Addr) (w : World) : (Go.method 349 128 (.pointer (some a)) "Unwrap").run prog w = .ok (184, .pointer (some a)) w := by kernel_rfl
theorem mUnwrapF (a : Addr) (w : World) : (Go.method 349 188 (.pointer (some a)) "Unwrap").run prog w = .ok (200, .pointer (some a)) w := by kernel_rfl

theorem typeOf46 (v : Value) (w : World) : (ReflectliteType.typeOf #[.iface 46 v]).run prog w = .ok (.iface 175 (.agg #[.pointer (some ⟨2, 46, none⟩)])) w := by kernel_rfl
theorem noAs46 (v : Value) (xT : TypeId) (w : World) : (Instr.typeAssert (.iface 46 v) xT 180 true).run prog w = .ok (.tuple #[.nilIface, .bool false]) w :=
  run_typeAssert_lacksB underlying180 (by kernel_rfl) (by kernel_rfl) v xT w
theorem noUnw46 (v : Value) (xT : TypeId) (w : World) : (Instr.typeAssert (.iface 46 v) xT 183 true).run prog w = .ok (.tuple #[.nilIface, .bool false]) w :=
  run_typeAssert_lacksB underlying183 (by kernel_rfl) (by kernel_rfl) v xT w
theorem noUnws46 (v : Value) (xT : TypeId) (w : World) : (Instr.typeAssert (.iface 46 v) xT 185 true).run prog w = .ok (.tuple #[.nilIface, .bool false]) w :=
  run_typeAssert_lacksB underlying185 (by kernel_rfl) (by kernel_rfl) v xT w

theorem typeOf128 (v : Value) (w : World) : (ReflectliteType.typeOf #[.iface 128 v]).run prog w = .ok (.iface 175 (.agg #[.pointer (some ⟨2, 128, none⟩)])) w := by kernel_rfl
theorem noAs128 (v : Value) (xT : TypeId) (w : World) : (Instr.typeAssert (.iface 128 v) xT 180 true).run prog w = .ok (.tuple #[.nilIface, .bool false]) w :=
  run_typeAssert_lacksB underlying180 (by kernel_rfl) (by kernel_rfl) v xT w
theorem isUnw128 (v : Value) (xT : TypeId) (w : World) : (Instr.typeAssert (.iface 128 v) xT 183 true).run prog w = .ok (.tuple #[.iface 128 v, .bool true]) w :=
  run_typeAssert_hasB underlying183 (by kernel_rfl) v xT w

theorem typeOf188 (v : Value) (w : World) : (ReflectliteType.typeOf #[.iface 188 v]).run prog w = .ok (.iface 175 (.agg #[.pointer (some ⟨2, 188, none⟩)])) w := by kernel_rfl
theorem noAs188 (v : Value) (xT : TypeId) (w : World) : (Instr.typeAssert (.iface 188 v) xT 180 true).run prog w = .ok (.tuple #[.nilIface, .bool false]) w :=
  run_typeAssert_lacksB underlying180 (by kernel_rfl) (by kernel_rfl) v xT w
theorem isUnw188 (v : Value) (xT : TypeId) (w : World) : (Instr.typeAssert (.iface 188 v) xT 183 true).run prog w = .ok (.tuple #[.iface 188 v, .bool true]) w :=
  run_typeAssert_hasB underlying183 (by kernel_rfl) v xT w
theorem ass46_46 (w : World) : (ReflectliteType.relation "AssignableTo" ReflectliteType.assignableTo #[.agg #[.pointer (some ⟨2, 46, none⟩)], .iface 175 (.agg #[.pointer (some ⟨2, 46, none⟩)])]).run prog w = .ok (.bool true) w := by kernel_rfl
theorem ass128_46 (w : World) : (ReflectliteType.relation "AssignableTo" ReflectliteType.assignableTo #[.agg #[.pointer (some ⟨2, 128, none⟩)], .iface 175 (.agg #[.pointer (some ⟨2, 46, none⟩)])]).run prog w = .ok (.bool false) w := by kernel_rfl
theorem ass188_46 (w : World) : (ReflectliteType.relation "AssignableTo" ReflectliteType.assignableTo #[.agg #[.pointer (some ⟨2, 188, none⟩)], .iface 175 (.agg #[.pointer (some ⟨2, 46, none⟩)])]).run prog w = .ok (.bool false) w := by kernel_rfl

theorem valueOf103 (t : Addr) (w : World) : (ReflectliteValue.unpack (.iface 103 (.pointer (some t)))).run prog w
    = .ok (.agg #[.pointer (some ⟨2, 103, none⟩), .pointer (some ⟨w.heap.size, 0, none⟩), .int .u64 150]) (w.alloc (.cells #[.pointer (some t)] 103)) := by kernel_rfl
theorem type103 (a : Addr) (w : World) : (ReflectliteValue.methodAny (ReflectliteValue.valueError "reflectlite.Value.Type" 0) (fun t _ _ _ => ReflectliteType.toType t) #[.agg #[.pointer (some ⟨2, 103, none⟩), .pointer (some a), .int .u64 150]]).run prog w
    = .ok (.iface 175 (.agg #[.pointer (some ⟨2, 103, none⟩)])) w := by kernel_rfl
theorem kind103 (w : World) : ((ReflectliteType.abiMethod fun t => (fun a : Nat => Value.int IntKind.u8 (a : Int)) <$> Rtype.kind t) #[.pointer (some ⟨2, 103, none⟩)]).run prog w = .ok (.int .u8 22) w := by kernel_rfl
theorem kind46 (w : World) : ((ReflectliteType.abiMethod fun t => (fun a : Nat => Value.int IntKind.u8 (a : Int)) <$> Rtype.kind t) #[.pointer (some ⟨2, 46, none⟩)]).run prog w = .ok (.int .u8 2) w := by kernel_rfl
theorem parts103 (a : Addr) (w : World) : (ReflectliteValue.parts (.agg #[.pointer (some ⟨2, 103, none⟩), .pointer (some a), .int .u64 150])).run prog w = .ok (some (103, a, 150)) w := by kernel_rfl
theorem isNil103 (a p : Addr) (W : World) (ha : W.cell? a = some (.pointer (some p))) :
    (ReflectliteValue.method (ReflectliteValue.valueError "reflectlite.Value.IsNil" 0) ReflectliteValue.isNil #[.agg #[.pointer (some ⟨2, 103, none⟩), .pointer (some a), .int .u64 150]]).run prog W = .ok (.bool false) W := by
  rw [rlm]
  simp only [Sem.run_bind, parts103, Result.andThen]
  simp [ReflectliteValue.isNil, loadVar, isAgg, underlying, underlying103, ha, Result.andThen]
theorem elem103 (w : World) : (ReflectliteType.method ReflectliteType.elem #[.agg #[.pointer (some ⟨2, 103, none⟩)]]).run prog w = .ok (.iface 175 (.agg #[.pointer (some ⟨2, 46, none⟩)])) w := by kernel_rfl
theorem implements46 (w : World) : (ReflectliteType.relation "Implements" ReflectliteType.implements_ #[.agg #[.pointer (some ⟨2, 46, none⟩)], .iface 175 (.agg #[.pointer (some ⟨2, 28, none⟩)])]).run prog w = .ok (.bool true) w := by kernel_rfl
theorem valueOfE46 (n : Int) (w : World) : (ReflectliteValue.unpack (.iface 46 (.int .i64 n))).run prog w
    = .ok (.agg #[.pointer (some ⟨2, 46, none⟩), .pointer (some ⟨w.heap.size, 0, none⟩), .int .u64 130]) (w.alloc (.cells #[(.int .i64 n)] 46)) := by kernel_rfl
theorem elemOf103 (w : World) : (Rtype.elem? 103).run prog w = .ok (some 46) w := by kernel_rfl
theorem mk46 (p : Addr) (w : World) : (ReflectliteValue.mk 46 p ReflectliteValue.flagAddr).run prog w = .ok (.agg #[.pointer (some ⟨2, 46, none⟩), .pointer (some p), .int .u64 386]) w := by kernel_rfl
theorem elemV103 (a p : Addr) (W : World) (ha : W.cell? a = some (.pointer (some p))) :
    (ReflectliteValue.method (ReflectliteValue.valueError "reflectlite.Value.Elem" 0) ReflectliteValue.elem #[.agg #[.pointer (some ⟨2, 103, none⟩), .pointer (some a), .int .u64 150]]).run prog W
      = .ok (.agg #[.pointer (some ⟨2, 46, none⟩), .pointer (some p), .int .u64 386]) W := by
  rw [rlm]
  simp only [Sem.run_bind, parts103, Result.andThen]
  simp [ReflectliteValue.elem, loadVar, isAgg, underlying, underlying103, ha, Result.andThen, elemOf103, mk46]
theorem partsA46 (a : Addr) (w : World) : (ReflectliteValue.parts (.agg #[.pointer (some ⟨2, 46, none⟩), .pointer (some a), .int .u64 386])).run prog w = .ok (some (46, a, 386)) w := by kernel_rfl
theorem partsV46 (a : Addr) (w : World) : (ReflectliteValue.parts (.agg #[.pointer (some ⟨2, 46, none⟩), .pointer (some a), .int .u64 130])).run prog w = .ok (some (46, a, 130)) w := by kernel_rfl
theorem direct46 (w : World) : (Rtype.directlyAssignable 46 46).run prog w = .ok true w := by kernel_rfl
theorem set46 (ta b : Addr) (n : Int) (old : Value) (W : World) (hb : W.cell? b = some (.int .i64 n)) (ht : W.cell? ta = some old) (hf : W.frozen? ta = false) :
    (ReflectliteValue.set #[.agg #[.pointer (some ⟨2, 46, none⟩), .pointer (some ta), .int .u64 386], .agg #[.pointer (some ⟨2, 46, none⟩), .pointer (some b), .int .u64 130]]).run prog W
      = .ok (.tuple #[]) (W.setCell ta (.int .i64 n)) := by
  rw [rls]
  simp only [Sem.run_bind, partsA46, partsV46, Result.andThen]
  simp [ReflectliteValue.flagAddr, loadVar, isAgg, underlying, underlying46, hb, Result.andThen, direct46, storeVar, Value.cells, storeCells, Addr.add]
  rw [run_store prog W ta _ _ (by rfl)]
  simp [ht, hf]

/-- the chain of errors in memory, as errors.As goes along it for a target of type 46 -/
inductive Ch46 (w : World) : Nat → Value → Option Value → Prop
  | hit {n : Int} : Ch46 w 0 (.iface 46 (.int .i64 n)) (some (.int .i64 n))
  | where_ {b o : Nat} {e : Value} {r : Option Value} {n : Nat} : w.cell? ⟨b, o + 1, none⟩ = some e → Ch46 w n e r → Ch46 w (n + 1) (.iface 128 (.pointer (some ⟨b, o, none⟩))) r
  | field {b o : Nat} {e : Value} {r : Option Value} {n : Nat} : w.cell? ⟨b, o + 1, none⟩ = some e → Ch46 w n e r → Ch46 w (n + 1) (.iface 188 (.pointer (some ⟨b, o, none⟩))) r
  | fieldNil {b o : Nat} : w.cell? ⟨b, o + 1, none⟩ = some .nilIface → Ch46 w 0 (.iface 188 (.pointer (some ⟨b, o, none⟩))) none
  | whereNil {b o : Nat} : w.cell? ⟨b, o + 1, none⟩ = some .nilIface → Ch46 w 0 (.iface 128 (.pointer (some ⟨b, o, none⟩))) none

theorem Ch46.iface {w : World} {n : Nat} {e : Value} {r : Option Value} (h : Ch46 w n e r) : ∃ ty v, e = .iface ty v := by cases h <;> exact ⟨_, _, rfl⟩

theorem as_loop46 (e : Value) (n : Nat) (r : Option Value) (a t : Addr) (old : Value) (w : World) (tg : Value) (hch : Ch46 w n e r) (ha : w.cell? a = some (.pointer (some t))) (ht0 : w.cell? t = some old) (hf0 : w.frozen? t = false) :
    Calls prog 88 #[e, tg, .agg #[.pointer (some ⟨2, 103, none⟩), .pointer (some a), .int .u64 150], .iface 175 (.agg #[.pointer (some ⟨2, 46, none⟩)])] w fun ev w' =>
    Out w t r ev w' := by
  have hal : a.block < w.heap.size := by
    rcases Nat.lt_or_ge a.block w.heap.size with h | h
    · exact h
    · simp [World.cell?, Array.getElem?_eq_none h] at ha
  have htl : t.block < w.heap.size := by
    rcases Nat.lt_or_ge t.block w.heap.size with h | h
    · exact h
    · simp [World.cell?, Array.getElem?_eq_none h] at ht0
  have hR : ∀ wr : World, Go.Ai.Ext (w.alloc (.cells #[.pointer (some ⟨2, 103, none⟩), .pointer (some a), .int .u64 150] 135)) wr → Go.Ai.Ext w wr ∧ wr.cell? a = some (.pointer (some t)) ∧ wr.cell? t = some old ∧ wr.frozen? t = false ∧ t.block < wr.heap.size ∧
      wr.cell? ⟨w.heap.size, 0, none⟩ = some (.pointer (some ⟨2, 103, none⟩)) ∧ wr.cell? ⟨w.heap.size, 1, none⟩ = some (.pointer (some a)) ∧ wr.cell? ⟨w.heap.size, 2, none⟩ = some (.int .u64 150) := by
    intro wr h
    have h0 : Go.Ai.Ext w wr := (Go.Ai.Ext.alloc w _).trans h
    have hb : w.heap.size < (w.alloc (.cells #[.pointer (some ⟨2, 103, none⟩), .pointer (some a), .int .u64 150] 135)).heap.size := by simp
    refine ⟨h0, (World.cell?_of_block (h0.block _ hal)).trans ha, (World.cell?_of_block (h0.block _ htl)).trans ht0, (World.frozen?_of_block (h0.block _ htl)).trans hf0, Nat.lt_of_lt_of_le htl h0.size, ?_, ?_, ?_⟩
    · rw [h.cell hb]; simp
    · rw [h.cell hb]; simp
    · rw [h.cell hb]; simp
  have hTypeOf := @run_callFunc_extern prog 117 _ ReflectliteType.typeOf func117 (by kernel_rfl) (by kernel_rfl) (by kernel_rfl) (by kernel_rfl)
  have hAT := @run_callFunc_extern prog 189 _ (ReflectliteType.relation "AssignableTo" ReflectliteType.assignableTo) func189 (by kernel_rfl) (by kernel_rfl) (by kernel_rfl) (by kernel_rfl)
  have hElem := @run_callFunc_extern prog 118 _ (ReflectliteValue.method (ReflectliteValue.valueError "reflectlite.Value.Elem" 0) ReflectliteValue.elem) func118 (by kernel_rfl) (by kernel_rfl) (by kernel_rfl) (by kernel_rfl)
  have hVO := @run_callFunc_extern prog 85 _ (fun args => ReflectliteValue.unpack (args.getD 0 (.tuple #[]))) func85 (by kernel_rfl) (by kernel_rfl) (by kernel_rfl) (by kernel_rfl)
  have hSet := @run_callFunc_extern prog 119 _ ReflectliteValue.set func119 (by kernel_rfl) (by kernel_rfl) (by kernel_rfl) (by kernel_rfl)
  have mA := mAssignableTo
  have tO1 := typeOf46
  have tO2 := typeOf128
  have tO3 := typeOf188
  have as1 := ass46_46
  have as2 := ass128_46
  have as3 := ass188_46
  have nA1 := noAs46
  have nA2 := noAs128
  have nA3 := noAs188
  have u1 := noUnw46
  have u2 := isUnw128
  have u3 := isUnw188
  have us1 := noUnws46
  have mUW := mUnwrapW
  have mUF := mUnwrapF
  have vE := valueOfE46
  have enW : ∀ args w, (callFunc 184 args).run prog w = .ok (.enter 184 args) w := Go.Ai.enters_of func184 rfl (by kernel_rfl)
  have enF : ∀ args w, (callFunc 200 args).run prog w = .ok (.enter 200 args) w := Go.Ai.enters_of func200 rfl (by kernel_rfl)
  go_enter func88, ntmps88
  go_wp2
  go_loopg [0] n (fun k x wr => Ch46 w k x r ∧ Go.Ai.Ext (w.alloc (.cells #[.pointer (some ⟨2, 103, none⟩), .pointer (some a), .int .u64 150] 135)) wr)
  case atStart => exact ⟨hch, Go.Ai.Ext.refl _⟩
  case round =>
    obtain ⟨hc, hx⟩ := hrel
    obtain ⟨hx0, ca, ct, cf, hlt, c0, c1, c2⟩ := hR wr hx
    cases hc with
    | @hit x =>
      have el := elemV103 a t wr ca
      have st := set46 t ⟨wr.heap.size, 0, none⟩ x old (wr.alloc (.cells #[(.int .i64 x)] 46)) (by simp) (by rw [World.cell?_alloc_lt _ _ t hlt]; exact ct) (by rw [World.frozen?_alloc_old _ _ t (Nat.ne_of_lt hlt)]; exact cf)
      go_wp2
      go_ret
      exact .yes (hx0.trans (Go.Ai.Ext.alloc _ _)) rfl
    | @where_ b o e' _ n' he hc' =>
      have hb : b < w.heap.size := by
        rcases Nat.lt_or_ge b w.heap.size with h | h
        · exact h
        · simp [World.cell?, Array.getElem?_eq_none h] at he
      have he' : wr.cell? ⟨b, o + 1, none⟩ = some e' := (hx0.cell hb).trans he
      obtain ⟨ty, v, rfl⟩ := hc'.iface
      go_wp2_with (go_at_call 184; refine (unwrapW b o _ _ he').mono ?_; rintro en w' ⟨rfl, rfl⟩)
      go_roundg n'
      case measure => omega
      case rel => exact ⟨hc', hx⟩
    | @whereNil b o he =>
      have hb : b < w.heap.size := by
        rcases Nat.lt_or_ge b w.heap.size with h | h
        · exact h
        · simp [World.cell?, Array.getElem?_eq_none h] at he
      have he' : wr.cell? ⟨b, o + 1, none⟩ = some .nilIface := (hx0.cell hb).trans he
      go_wp2_with (go_at_call 184; refine (unwrapW b o _ _ he').mono ?_; rintro en w' ⟨rfl, rfl⟩)
      go_ret
      exact .no hx0
    | @field b o e' _ n' he hc' =>
      have hb : b < w.heap.size := by
        rcases Nat.lt_or_ge b w.heap.size with h | h
        · exact h
        · simp [World.cell?, Array.getElem?_eq_none h] at he
      have he' : wr.cell? ⟨b, o + 1, none⟩ = some e' := (hx0.cell hb).trans he
      obtain ⟨ty, v, rfl⟩ := hc'.iface
      go_wp2_with (go_at_call 200; refine (unwrapF b o _ _ he').mono ?_; rintro en w' ⟨rfl, rfl⟩)
      go_roundg n'
      case measure => omega
      case rel => exact ⟨hc', hx⟩
    | @fieldNil b o he =>
      have hb : b < w.heap.size := by
        rcases Nat.lt_or_ge b w.heap.size with h | h
        · exact h
        · simp [World.cell?, Array.getElem?_eq_none h] at he
      have he' : wr.cell? ⟨b, o + 1, none⟩ = some .nilIface := (hx0.cell hb).trans he
      go_wp2_with (go_at_call 200; refine (unwrapF b o _ _ he').mono ?_; rintro en w' ⟨rfl, rfl⟩)
      go_ret
      exact .no hx0

theorem Ch46.mono {w w' : World} (hx : Go.Ai.Ext w w') {n : Nat} {e : Value} {r : Option Value} (h : Ch46 w n e r) : Ch46 w' n e r := by
  have key : ∀ {b o : Nat} {e : Value}, w.cell? ⟨b, o, none⟩ = some e → w'.cell? ⟨b, o, none⟩ = some e := by
    intro b o e he
    have hb : b < w.heap.size := by
      rcases Nat.lt_or_ge b w.heap.size with h | h
      · exact h
      · simp [World.cell?, Array.getElem?_eq_none h] at he
    exact (hx.cell hb).trans he
  induction h with
  | hit => exact .hit
  | where_ h _ ih => exact .where_ (key h) ih
  | whereNil h => exact .whereNil (key h)
  | field h _ ih => exact .field (key h) ih
  | fieldNil h => exact .fieldNil (key h)

theorem as_46 (e : Value) (n : Nat) (r : Option Value) (t : Addr) (old : Value) (w : World) (hch : Ch46 w n e r) (hg : w.cell? ⟨0, 0, none⟩ = some (.iface 175 (.agg #[.pointer (some ⟨2, 28, none⟩)]))) (ht0 : w.cell? t = some old) (hf0 : w.frozen? t = false) :
    Calls prog 55 #[e, .iface 103 (.pointer (some t))] w fun ev w' => Out w t r ev w' := by
  have htl : t.block < w.heap.size := by
    rcases Nat.lt_or_ge t.block w.heap.size with h | h
    · exact h
    · simp [World.cell?, Array.getElem?_eq_none h] at ht0
  have h0l : 0 < w.heap.size := by
    rcases Nat.eq_zero_or_pos w.heap.size with h0 | h
    · simp [World.cell?, h0] at hg
    · exact h
  have h6 := @run_callFunc_extern prog 85 _ (fun args => ReflectliteValue.unpack (args.getD 0 (.tuple #[]))) func85 (by kernel_rfl) (by kernel_rfl) (by kernel_rfl) (by kernel_rfl)
  have h7 := @run_callFunc_extern prog 86 _ (ReflectliteValue.methodAny (ReflectliteValue.valueError "reflectlite.Value.Type" 0) (fun t _ _ _ => ReflectliteType.toType t)) func86 (by kernel_rfl) (by kernel_rfl) (by kernel_rfl) (by kernel_rfl)
  have h8 := @run_callFunc_extern prog 87 _ (ReflectliteValue.method (ReflectliteValue.valueError "reflectlite.Value.IsNil" 0) ReflectliteValue.isNil) func87 (by kernel_rfl) (by kernel_rfl) (by kernel_rfl) (by kernel_rfl)
  have h27 := @run_callFunc_extern prog 178 _ (ReflectliteType.abiMethod fun t => do pure (.int .u8 (← Rtype.kind t))) func178 (by kernel_rfl) (by kernel_rfl) (by kernel_rfl) (by kernel_rfl)
  have h37 := @run_callFunc_extern prog 191 _ (ReflectliteType.method ReflectliteType.elem) func191 (by kernel_rfl) (by kernel_rfl) (by kernel_rfl) (by kernel_rfl)
  have h38 := @run_callFunc_extern prog 192 _ (ReflectliteType.relation "Implements" ReflectliteType.implements_) func192 (by kernel_rfl) (by kernel_rfl) (by kernel_rfl) (by kernel_rfl)
  have f6 := valueOf103
  have f7 := type103
  have mK := mKind
  have mE := mElem
  have mI := mImplements
  have k27 := kind103
  have k25 := kind46
  have e27 := elem103
  have i25 := implements46
  have n8 := isNil103 ⟨w.heap.size, 0, none⟩ t ((w.alloc (.cells #[.pointer (some t)] 103)).alloc (.cells #[.pointer (some ⟨2, 103, none⟩), .pointer (some ⟨w.heap.size, 0, none⟩), .int .u64 150] 135)) (by simp)
  have hg2 : ((w.alloc (.cells #[.pointer (some t)] 103)).alloc (.cells #[.pointer (some ⟨2, 103, none⟩), .pointer (some ⟨w.heap.size, 0, none⟩), .int .u64 150] 135)).cell? ⟨0, 0, none⟩ = some (.iface 175 (.agg #[.pointer (some ⟨2, 28, none⟩)])) := by
    rw [World.cell?_alloc_lt _ _ ⟨0, 0, none⟩ (by simp), World.cell?_alloc_lt _ _ ⟨0, 0, none⟩ h0l]; exact hg
  have hx : Go.Ai.Ext w ((w.alloc (.cells #[.pointer (some t)] 103)).alloc (.cells #[.pointer (some ⟨2, 103, none⟩), .pointer (some ⟨w.heap.size, 0, none⟩), .int .u64 150] 135)) := (Go.Ai.Ext.alloc w _).trans (Go.Ai.Ext.alloc _ _)
  have hloop := as_loop46 e n r ⟨w.heap.size, 0, none⟩ t old ((w.alloc (.cells #[.pointer (some t)] 103)).alloc (.cells #[.pointer (some ⟨2, 103, none⟩), .pointer (some ⟨w.heap.size, 0, none⟩), .int .u64 150] 135)) (.iface 103 (.pointer (some t)))
    (hch.mono hx) (by simp) ((World.cell?_of_block (hx.block _ htl)).trans ht0) ((World.frozen?_of_block (hx.block _ htl)).trans hf0)
  obtain ⟨ty, v, rfl⟩ := hch.iface
  have enA : ∀ args w, (callFunc 88 args).run prog w = .ok (.enter 88 args) w := Go.Ai.enters_of func88 rfl (by kernel_rfl)
  go_enter func55, ntmps55
  go_wp2_with (go_at_call 88; refine hloop.mono ?_; rintro en w' ho)
  cases ho with
  | no hx' =>
    go_wp2
    go_ret
    exact .no (hx.trans hx')
  | yes hx' he =>
    subst he
    go_wp2
    go_ret
    exact .yes (hx.trans hx') rfl
theorem ass46_128 (w : World) : (ReflectliteType.relation "AssignableTo" ReflectliteType.assignableTo #[.agg #[.pointer (some ⟨2, 46, none⟩)], .iface 175 (.agg #[.pointer (some ⟨2, 128, none⟩)])]).run prog w = .ok (.bool false) w := by kernel_rfl
theorem ass128_128 (w : World) : (ReflectliteType.relation "AssignableTo" ReflectliteType.assignableTo #[.agg #[.pointer (some ⟨2, 128, none⟩)], .iface 175 (.agg #[.pointer (some ⟨2, 128, none⟩)])]).run prog w = .ok (.bool true) w := by kernel_rfl
theorem ass188_128 (w : World) : (ReflectliteType.relation "AssignableTo" ReflectliteType.assignableTo #[.agg #[.pointer (some ⟨2, 188, none⟩)], .iface 175 (.agg #[.pointer (some ⟨2, 128, none⟩)])]).run prog w = .ok (.bool false) w := by kernel_rfl

theorem valueOf129 (t : Addr) (w : World) : (ReflectliteValue.unpack (.iface 129 (.pointer (some t)))).run prog w
    = .ok (.agg #[.pointer (some ⟨2, 129, none⟩), .pointer (some ⟨w.heap.size, 0, none⟩), .int .u64 150]) (w.alloc (.cells #[.pointer (some t)] 129)) := by kernel_rfl
theorem type129 (a : Addr) (w : World) : (ReflectliteValue.methodAny (ReflectliteValue.valueError "reflectlite.Value.Type" 0) (fun t _ _ _ => ReflectliteType.toType t) #[.agg #[.pointer (some ⟨2, 129, none⟩), .pointer (some a), .int .u64 150]]).run prog w
    = .ok (.iface 175 (.agg #[.pointer (some ⟨2, 129, none⟩)])) w := by kernel_rfl
theorem kind129 (w : World) : ((ReflectliteType.abiMethod fun t => (fun a : Nat => Value.int IntKind.u8 (a : Int)) <$> Rtype.kind t) #[.pointer (some ⟨2, 129, none⟩)]).run prog w = .ok (.int .u8 22) w := by kernel_rfl
theorem kind128 (w : World) : ((ReflectliteType.abiMethod fun t => (fun a : Nat => Value.int IntKind.u8 (a : Int)) <$> Rtype.kind t) #[.pointer (some ⟨2, 128, none⟩)]).run prog w = .ok (.int .u8 22) w := by kernel_rfl
theorem parts129 (a : Addr) (w : World) : (ReflectliteValue.parts (.agg #[.pointer (some ⟨2, 129, none⟩), .pointer (some a), .int .u64 150])).run prog w = .ok (some (129, a, 150)) w := by kernel_rfl
theorem isNil129 (a p : Addr) (W : World) (ha : W.cell? a = some (.pointer (some p))) :
    (ReflectliteValue.method (ReflectliteValue.valueError "reflectlite.Value.IsNil" 0) ReflectliteValue.isNil #[.agg #[.pointer (some ⟨2, 129, none⟩), .pointer (some a), .int .u64 150]]).run prog W = .ok (.bool false) W := by
  rw [rlm]
  simp only [Sem.run_bind, parts129, Result.andThen]
  simp [ReflectliteValue.isNil, loadVar, isAgg, underlying, underlying129, ha, Result.andThen]
theorem elem129 (w : World) : (ReflectliteType.method ReflectliteType.elem #[.agg #[.pointer (some ⟨2, 129, none⟩)]]).run prog w = .ok (.iface 175 (.agg #[.pointer (some ⟨2, 128, none⟩)])) w := by kernel_rfl
theorem implements128 (w : World) : (ReflectliteType.relation "Implements" ReflectliteType.implements_ #[.agg #[.pointer (some ⟨2, 128, none⟩)], .iface 175 (.agg #[.pointer (some ⟨2, 28, none⟩)])]).run prog w = .ok (.bool true) w := by kernel_rfl
theorem valueOfE128 (p : Addr) (w : World) : (ReflectliteValue.unpack (.iface 128 (.pointer (some p)))).run prog w
    = .ok (.agg #[.pointer (some ⟨2, 128, none⟩), .pointer (some ⟨w.heap.size, 0, none⟩), .int .u64 150]) (w.alloc (.cells #[(.pointer (some p))] 128)) := by kernel_rfl
theorem elemOf129 (w : World) : (Rtype.elem? 129).run prog w = .ok (some 128) w := by kernel_rfl
theorem mk128 (p : Addr) (w : World) : (ReflectliteValue.mk 128 p ReflectliteValue.flagAddr).run prog w = .ok (.agg #[.pointer (some ⟨2, 128, none⟩), .pointer (some p), .int .u64 406]) w := by kernel_rfl
theorem elemV129 (a p : Addr) (W : World) (ha : W.cell? a = some (.pointer (some p))) :
    (ReflectliteValue.method (ReflectliteValue.valueError "reflectlite.Value.Elem" 0) ReflectliteValue.elem #[.agg #[.pointer (some ⟨2, 129, none⟩), .pointer (some a), .int .u64 150]]).run prog W
      = .ok (.agg #[.pointer (some ⟨2, 128, none⟩), .pointer (some p), .int .u64 406]) W := by
  rw [rlm]
  simp only [Sem.run_bind, parts129, Result.andThen]
  simp [ReflectliteValue.elem, loadVar, isAgg, underlying, underlying129, ha, Result.andThen, elemOf129, mk128]
theorem partsA128 (a : Addr) (w : World) : (ReflectliteValue.parts (.agg #[.pointer (some ⟨2, 128, none⟩), .pointer (some a), .int .u64 406])).run prog w = .ok (some (128, a, 406)) w := by kernel_rfl
theorem partsV128 (a : Addr) (w : World) : (ReflectliteValue.parts (.agg #[.pointer (some ⟨2, 128, none⟩), .pointer (some a), .int .u64 150])).run prog w = .ok (some (128, a, 150)) w := by kernel_rfl
theorem direct128 (w : World) : (Rtype.directlyAssignable 128 128).run prog w = .ok true w := by kernel_rfl
theorem set128 (ta b : Addr) (p : Addr) (old : Value) (W : World) (hb : W.cell? b = some (.pointer (some p))) (ht : W.cell? ta = some old) (hf : W.frozen? ta = false) :
    (ReflectliteValue.set #[.agg #[.pointer (some ⟨2, 128, none⟩), .pointer (some ta), .int .u64 406], .agg #[.pointer (some ⟨2, 128, none⟩), .pointer (some b), .int .u64 150]]).run prog W
      = .ok (.tuple #[]) (W.setCell ta (.pointer (some p))) := by
  rw [rls]
  simp only [Sem.run_bind, partsA128, partsV128, Result.andThen]
  simp [ReflectliteValue.flagAddr, loadVar, isAgg, underlying, underlying128, hb, Result.andThen, direct128, storeVar, Value.cells, storeCells, Addr.add]
  rw [run_store prog W ta _ _ (by rfl)]
  simp [ht, hf]

/-- the chain of errors in memory, as errors.As goes along it for a target of type 128 -/
inductive Ch128 (w : World) : Nat → Value → Option Value → Prop
  | hit {p : Addr} : Ch128 w 0 (.iface 128 (.pointer (some p))) (some (.pointer (some p)))
  | code {v : Value} : Ch128 w 0 (.iface 46 v) none
  | field {b o : Nat} {e : Value} {r : Option Value} {n : Nat} : w.cell? ⟨b, o + 1, none⟩ = some e → Ch128 w n e r → Ch128 w (n + 1) (.iface 188 (.pointer (some ⟨b, o, none⟩))) r
  | fieldNil {b o : Nat} : w.cell? ⟨b, o + 1, none⟩ = some .nilIface → Ch128 w 0 (.iface 188 (.pointer (some ⟨b, o, none⟩))) none

theorem Ch128.iface {w : World} {n : Nat} {e : Value} {r : Option Value} (h : Ch128 w n e r) : ∃ ty v, e = .iface ty v := by cases h <;> exact ⟨_, _, rfl⟩

theorem as_loop128 (e : Value) (n : Nat) (r : Option Value) (a t : Addr) (old : Value) (w : World) (tg : Value) (hch : Ch128 w n e r) (ha : w.cell? a = some (.pointer (some t))) (ht0 : w.cell? t = some old) (hf0 : w.frozen? t = false) :
    Calls prog 88 #[e, tg, .agg #[.pointer (some ⟨2, 129, none⟩), .pointer (some a), .int .u64 150], .iface 175 (.agg #[.pointer (some ⟨2, 128, none⟩)])] w fun ev w' =>
    Out w t r ev w' := by
  have hal : a.block < w.heap.size := by
    rcases Nat.lt_or_ge a.block w.heap.size with h | h
    · exact h
    · simp [World.cell?, Array.getElem?_eq_none h] at ha
  have htl : t.block < w.heap.size := by
    rcases Nat.lt_or_ge t.block w.heap.size with h | h
    · exact h
    · simp [World.cell?, Array.getElem?_eq_none h] at ht0
  have hR : ∀ wr : World, Go.Ai.Ext (w.alloc (.cells #[.pointer (some ⟨2, 129, none⟩), .pointer (some a), .int .u64 150] 135)) wr → Go.Ai.Ext w wr ∧ wr.cell? a = some (.pointer (some t)) ∧ wr.cell? t = some old ∧ wr.frozen? t = false ∧ t.block < wr.heap.size ∧
      wr.cell? ⟨w.heap.size, 0, none⟩ = some (.pointer (some ⟨2, 129, none⟩)) ∧ wr.cell? ⟨w.heap.size, 1, none⟩ = some (.pointer (some a)) ∧ wr.cell? ⟨w.heap.size, 2, none⟩ = some (.int .u64 150) := by
    intro wr h
    have h0 : Go.Ai.Ext w wr := (Go.Ai.Ext.alloc w _).trans h
    have hb : w.heap.size < (w.alloc (.cells #[.pointer (some ⟨2, 129, none⟩), .pointer (some a), .int .u64 150] 135)).heap.size := by simp
    refine ⟨h0, (World.cell?_of_block (h0.block _ hal)).trans ha, (World.cell?_of_block (h0.block _ htl)).trans ht0, (World.frozen?_of_block (h0.block _ htl)).trans hf0, Nat.lt_of_lt_of_le htl h0.size, ?_, ?_, ?_⟩
    · rw [h.cell hb]; simp
    · rw [h.cell hb]; simp
    · rw [h.cell hb]; simp
  have hTypeOf := @run_callFunc_extern prog 117 _ ReflectliteType.typeOf func117 (by kernel_rfl) (by kernel_rfl) (by kernel_rfl) (by kernel_rfl)
  have hAT := @run_callFunc_extern prog 189 _ (ReflectliteType.relation "AssignableTo" ReflectliteType.assignableTo) func189 (by kernel_rfl) (by kernel_rfl) (by kernel_rfl) (by kernel_rfl)
  have hElem := @run_callFunc_extern prog 118 _ (ReflectliteValue.method (ReflectliteValue.valueError "reflectlite.Value.Elem" 0) ReflectliteValue.elem) func118 (by kernel_rfl) (by kernel_rfl) (by kernel_rfl) (by kernel_rfl)
  have hVO := @run_callFunc_extern prog 85 _ (fun args => ReflectliteValue.unpack (args.getD 0 (.tuple #[]))) func85 (by kernel_rfl) (by kernel_rfl) (by kernel_rfl) (by kernel_rfl)
  have hSet := @run_callFunc_extern prog 119 _ ReflectliteValue.set func119 (by kernel_rfl) (by kernel_rfl) (by kernel_rfl) (by kernel_rfl)
  have mA := mAssignableTo
  have tO1 := typeOf46
  have tO2 := typeOf128
  have tO3 := typeOf188
  have as1 := ass46_128
  have as2 := ass128_128
  have as3 := ass188_128
  have nA1 := noAs46
  have nA2 := noAs128
  have nA3 := noAs188
  have u1 := noUnw46
  have u2 := isUnw128
  have u3 := isUnw188
  have us1 := noUnws46
  have mUW := mUnwrapW
  have mUF := mUnwrapF
  have vE := valueOfE128
  have enW : ∀ args w, (callFunc 184 args).run prog w = .ok (.enter 184 args) w := Go.Ai.enters_of func184 rfl (by kernel_rfl)
  have enF : ∀ args w, (callFunc 200 args).run prog w = .ok (.enter 200 args) w := Go.Ai.enters_of func200 rfl (by kernel_rfl)
  go_enter func88, ntmps88
  go_wp2
  go_loopg [0] n (fun k x wr => Ch128 w k x r ∧ Go.Ai.Ext (w.alloc (.cells #[.pointer (some ⟨2, 129, none⟩), .pointer (some a), .int .u64 150] 135)) wr)
  case atStart => exact ⟨hch, Go.Ai.Ext.refl _⟩
  case round =>
    obtain ⟨hc, hx⟩ := hrel
    obtain ⟨hx0, ca, ct, cf, hlt, c0, c1, c2⟩ := hR wr hx
    cases hc with
    | @hit x =>
      have el := elemV129 a t wr ca
      have st := set128 t ⟨wr.heap.size, 0, none⟩ x old (wr.alloc (.cells #[(.pointer (some x))] 128)) (by simp) (by rw [World.cell?_alloc_lt _ _ t hlt]; exact ct) (by rw [World.frozen?_alloc_old _ _ t (Nat.ne_of_lt hlt)]; exact cf)
      go_wp2
      go_ret
      exact .yes (hx0.trans (Go.Ai.Ext.alloc _ _)) rfl
    | code =>
      go_wp2
      go_ret
      exact .no hx0
    | @field b o e' _ n' he hc' =>
      have hb : b < w.heap.size := by
        rcases Nat.lt_or_ge b w.heap.size with h | h
        · exact h
        · simp [World.cell?, Array.getElem?_eq_none h] at he
      have he' : wr.cell? ⟨b, o + 1, none⟩ = some e' := (hx0.cell hb).trans he
      obtain ⟨ty, v, rfl⟩ := hc'.iface
      go_wp2_with (go_at_call 200; refine (unwrapF b o _ _ he').mono ?_; rintro en w' ⟨rfl, rfl⟩)
      go_roundg n'
      case measure => omega
      case rel => exact ⟨hc', hx⟩
    | @fieldNil b o he =>
      have hb : b < w.heap.size := by
        rcases Nat.lt_or_ge b w.heap.size with h | h
        · exact h
        · simp [World.cell?, Array.getElem?_eq_none h] at he
      have he' : wr.cell? ⟨b, o + 1, none⟩ = some .nilIface := (hx0.cell hb).trans he
      go_wp2_with (go_at_call 200; refine (unwrapF b o _ _ he').mono ?_; rintro en w' ⟨rfl, rfl⟩)
      go_ret
      exact .no hx0

theorem Ch128.mono {w w' : World} (hx : Go.Ai.Ext w w') {n : Nat} {e : Value} {r : Option Value} (h : Ch128 w n e r) : Ch128 w' n e r := by
  have key : ∀ {b o : Nat} {e : Value}, w.cell? ⟨b, o, none⟩ = some e → w'.cell? ⟨b, o, none⟩ = some e := by
    intro b o e he
    have hb : b < w.heap.size := by
      rcases Nat.lt_or_ge b w.heap.size with h | h
      · exact h
      · simp [World.cell?, Array.getElem?_eq_none h] at he
    exact (hx.cell hb).trans he
  induction h with
  | hit => exact .hit
  | code => exact .code
  | field h _ ih => exact .field (key h) ih
  | fieldNil h => exact .fieldNil (key h)

theorem as_128 (e : Value) (n : Nat) (r : Option Value) (t : Addr) (old : Value) (w : World) (hch : Ch128 w n e r) (hg : w.cell? ⟨0, 0, none⟩ = some (.iface 175 (.agg #[.pointer (some ⟨2, 28, none⟩)]))) (ht0 : w.cell? t = some old) (hf0 : w.frozen? t = false) :
    Calls prog 55 #[e, .iface 129 (.pointer (some t))] w fun ev w' => Out w t r ev w' := by
  have htl : t.block < w.heap.size := by
    rcases Nat.lt_or_ge t.block w.heap.size with h | h
    · exact h
    · simp [World.cell?, Array.getElem?_eq_none h] at ht0
  have h0l : 0 < w.heap.size := by
    rcases Nat.eq_zero_or_pos w.heap.size with h0 | h
    · simp [World.cell?, h0] at hg
    · exact h
  have h6 := @run_callFunc_extern prog 85 _ (fun args => ReflectliteValue.unpack (args.getD 0 (.tuple #[]))) func85 (by kernel_rfl) (by kernel_rfl) (by kernel_rfl) (by kernel_rfl)
  have h7 := @run_callFunc_extern prog 86 _ (ReflectliteValue.methodAny (ReflectliteValue.valueError "reflectlite.Value.Type" 0) (fun t _ _ _ => ReflectliteType.toType t)) func86 (by kernel_rfl) (by kernel_rfl) (by kernel_rfl) (by kernel_rfl)
  have h8 := @run_callFunc_extern prog 87 _ (ReflectliteValue.method (ReflectliteValue.valueError "reflectlite.Value.IsNil" 0) ReflectliteValue.isNil) func87 (by kernel_rfl) (by kernel_rfl) (by kernel_rfl) (by kernel_rfl)
  have h27 := @run_callFunc_extern prog 178 _ (ReflectliteType.abiMethod fun t => do pure (.int .u8 (← Rtype.kind t))) func178 (by kernel_rfl) (by kernel_rfl) (by kernel_rfl) (by kernel_rfl)
  have h37 := @run_callFunc_extern prog 191 _ (ReflectliteType.method ReflectliteType.elem) func191 (by kernel_rfl) (by kernel_rfl) (by kernel_rfl) (by kernel_rfl)
  have h38 := @run_callFunc_extern prog 192 _ (ReflectliteType.relation "Implements" ReflectliteType.implements_) func192 (by kernel_rfl) (by kernel_rfl) (by kernel_rfl) (by kernel_rfl)
  have f6 := valueOf129
  have f7 := type129
  have mK := mKind
  have mE := mElem
  have mI := mImplements
  have k27 := kind129
  have k25 := kind128
  have e27 := elem129
  have i25 := implements128
  have n8 := isNil129 ⟨w.heap.size, 0, none⟩ t ((w.alloc (.cells #[.pointer (some t)] 129)).alloc (.cells #[.pointer (some ⟨2, 129, none⟩), .pointer (some ⟨w.heap.size, 0, none⟩), .int .u64 150] 135)) (by simp)
  have hg2 : ((w.alloc (.cells #[.pointer (some t)] 129)).alloc (.cells #[.pointer (some ⟨2, 129, none⟩), .pointer (some ⟨w.heap.size, 0, none⟩), .int .u64 150] 135)).cell? ⟨0, 0, none⟩ = some (.iface 175 (.agg #[.pointer (some ⟨2, 28, none⟩)])) := by
    rw [World.cell?_alloc_lt _ _ ⟨0, 0, none⟩ (by simp), World.cell?_alloc_lt _ _ ⟨0, 0, none⟩ h0l]; exact hg
  have hx : Go.Ai.Ext w ((w.alloc (.cells #[.pointer (some t)] 129)).alloc (.cells #[.pointer (some ⟨2, 129, none⟩), .pointer (some ⟨w.heap.size, 0, none⟩), .int .u64 150] 135)) := (Go.Ai.Ext.alloc w _).trans (Go.Ai.Ext.alloc _ _)
  have hloop := as_loop128 e n r ⟨w.heap.size, 0, none⟩ t old ((w.alloc (.cells #[.pointer (some t)] 129)).alloc (.cells #[.pointer (some ⟨2, 129, none⟩), .pointer (some ⟨w.heap.size, 0, none⟩), .int .u64 150] 135)) (.iface 129 (.pointer (some t)))
    (hch.mono hx) (by simp) ((World.cell?_of_block (hx.block _ htl)).trans ht0) ((World.frozen?_of_block (hx.block _ htl)).trans hf0)
  obtain ⟨ty, v, rfl⟩ := hch.iface
  have enA : ∀ args w, (callFunc 88 args).run prog w = .ok (.enter 88 args) w := Go.Ai.enters_of func88 rfl (by kernel_rfl)
  go_enter func55, ntmps55
  go_wp2_with (go_at_call 88; refine hloop.mono ?_; rintro en w' ho)
  cases ho with
  | no hx' =>
    go_wp2
    go_ret
    exact .no (hx.trans hx')
  | yes hx' he =>
    subst he
    go_wp2
    go_ret
    exact .yes (hx.trans hx') rfl

theorem to46 {w : World} {e : Value} {r : Option Value} (h : Go.Ai.Ch 46 128 188 46 w e r) : (e = .nilIface ∧ r = none) ∨ ∃ n, Ch46 w n e r := by
  induction h with
  | nil => exact .inl ⟨rfl, rfl⟩
  | hitC _ => exact .inr ⟨0, .hit⟩
  | hitW h => exact absurd rfl h
  | miss h => exact absurd rfl h
  | step hor _ _ hc _ ih =>
    rcases hor with rfl | rfl
    · rcases ih with ⟨rfl, rfl⟩ | ⟨n, hn⟩
      · exact .inr ⟨0, .whereNil hc⟩
      · exact .inr ⟨n + 1, .where_ hc hn⟩
    · rcases ih with ⟨rfl, rfl⟩ | ⟨n, hn⟩
      · exact .inr ⟨0, .fieldNil hc⟩
      · exact .inr ⟨n + 1, .field hc hn⟩
theorem to128 {w : World} {e : Value} {r : Option Value} (h : Go.Ai.Ch 46 128 188 128 w e r) : (e = .nilIface ∧ r = none) ∨ ∃ n, Ch128 w n e r := by
  induction h with
  | nil => exact .inl ⟨rfl, rfl⟩
  | hitC h => cases h
  | hitW _ => exact .inr ⟨0, .hit⟩
  | miss _ => exact .inr ⟨0, .code⟩
  | step hor hne _ hc _ ih =>
    rcases hor with rfl | rfl
    · exact absurd rfl hne
    · rcases ih with ⟨rfl, rfl⟩ | ⟨n, hn⟩
      · exact .inr ⟨0, .fieldNil hc⟩
      · exact .inr ⟨n + 1, .field hc hn⟩
theorem Out.as {w w' : World} {t : Addr} {r : Option Value} {e : Ending} (h : Out w t r e w') : Go.Ai.AsOut w t r e w' := by
  cases h with
  | no h => exact .no h
  | yes h1 h2 => exact .yes h1 h2
theorem as_ok (q : Nat × Nat) (hq : q ∈ [(103, 46), (129, 128)]) (e : Value) (r : Option Value) (t : Addr) (old : Value) (w : World) (hch : Go.Ai.Ch 46 128 188 q.2 w e r)
    (hg : w.cell? ⟨0, 0, none⟩ = some (.iface 175 (.agg #[.pointer (some ⟨2, 28, none⟩)]))) (ht0 : w.cell? t = some old) (hf0 : w.frozen? t = false) :
    Calls prog 55 #[e, .iface q.1 (.pointer (some t))] w fun ev w' => Go.Ai.AsOut w t r ev w' := by
  simp only [List.mem_cons, List.not_mem_nil, or_false] at hq
  have hnil : Calls prog 55 #[.nilIface, .iface q.1 (.pointer (some t))] w fun ev w' => Go.Ai.AsOut w t none ev w' :=
    (as_nil _ w).mono fun ev w' h => by obtain ⟨rfl, rfl⟩ := h; exact .no (Go.Ai.Ext.refl _)
  rcases hq with rfl | rfl
  · rcases to46 hch with ⟨rfl, rfl⟩ | ⟨n, hn⟩
    · exact hnil
    · exact (as_46 e n r t old w hn hg ht0 hf0).mono fun _ _ h => h.as
  · rcases to128 hch with ⟨rfl, rfl⟩ | ⟨n, hn⟩
    · exact hnil
    · exact (as_128 e n r t old w hn hg ht0 hf0).mono fun _ _ h => h.as
end Go.Proofs.Tryz.AsX

/- The environment of the evaluator is sound for this program, at worlds where errors.errorType is laid. -/
namespace Go.Ai.T
set_option maxRecDepth 100000
open Go
theorem en {f : Nat} {fn : Func} {code : Code} (hf : Go.Proofs.Tryz.prog.funcs[f]? = some fn) (hb : fn.body = some code) (hn : (fn.name == "runtime.NumGoroutine") = false) : Enters E.P f := enters_of hf hb hn
theorem envS_ok {W : World} (hg : W.cell? ⟨0, 0, none⟩ = some (.iface 175 (.agg #[.pointer (some ⟨2, 28, none⟩)]))) : EnvOK E W.heap.size W := by
  have h0 : 0 < W.heap.size := by
    rcases Nat.eq_zero_or_pos W.heap.size with h0 | h
    · simp [World.cell?, h0] at hg
    · exact h
  refine env_ok envB_ok ?_ ?_
  · intro f g hfg
    simp only [E, prim] at hfg
    split at hfg <;> first | (cases hfg; first | exact errorsAs_dom _ _ _ _ | exact builderString_dom _ | exact builderCheck_dom _ | exact stringsJoin_dom) | cases hfg
  · intro f g hfg
    simp only [E, prim] at hfg
    split at hfg
    · cases hfg
      exact errorsAs_ok (en Go.Proofs.Tryz.func55 rfl (by kernel_rfl)) h0 hg Go.Proofs.Tryz.AsX.as_ok
    · cases hfg
      exact builderString_ok (en Go.Proofs.Tryz.func65 rfl (by kernel_rfl)) Go.Proofs.Tryz.string_nil Go.Proofs.Tryz.string_zero Go.Proofs.Tryz.string_room Go.Proofs.Tryz.string_some
    · cases hfg
      refine builderCheck_ok (en Go.Proofs.Tryz.func97 rfl (by kernel_rfl)) Go.Proofs.Tryz.check_used ?_
      intro b w t ht h1 h2 h3
      simp only [List.contains_eq_mem, List.mem_cons, List.not_mem_nil, or_false, decide_eq_true_eq] at ht
      rcases ht with rfl | rfl
      · exact Go.Proofs.Tryz.check_fresh b w _ h1 h2 Go.Proofs.Tryz.lies_B h3
      · exact Go.Proofs.Tryz.check_fresh b w _ h1 h2 Go.Proofs.Tryz.lies_W h3
    · cases hfg
      exact stringsJoin_ok (en Go.Proofs.Tryz.func129 rfl (by kernel_rfl)) Go.Proofs.Tryz.strings_Join_none Go.Proofs.Tryz.strings_Join
    · cases hfg
end Go.Ai.T

