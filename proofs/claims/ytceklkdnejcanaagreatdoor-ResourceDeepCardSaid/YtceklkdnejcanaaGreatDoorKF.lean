/- Part KF of the proof that a law of this program answers yes at every input: no conditions beyond the given statement. -/
import Derived.Test.YtceklkdnejcanaaGreatDoorProg
import Derived.WalkKit
import Derived.LaidEql
import Derived.Stop.Asserts
import Derived.RowKitTokens
import Derived.Deep.LoopGhost
import Derived.Test.YtceklkdnejcanaaGreatDoorKD
import Derived.Test.YtceklkdnejcanaaGreatDoorKE
import Derived.Test.YtceklkdnejcanaaGreatDoorKC
set_option linter.unusedSimpArgs false
set_option linter.unusedVariables false
set_option linter.all false
namespace Go.Proofs.Tryz.AsX
open Go.RowKit Go.Extern.Stop Go.Stop Go.Extern
set_option maxHeartbeats 4000000
set_option maxRecDepth 100000
theorem as_nil (t : Value) (w : World) : Calls prog 52 #[.nilIface, t] w fun e w' => e = .returned (.bool false) ∧ w' = w := by
 go_enter func52, ntmps52
 go_wp2
 go_ret
 exact ⟨rfl, rfl⟩
theorem rlm (z : Sem Value) (f : TypeId → Addr → Nat → Nat → Sem Value) (v : Value) :
  ReflectliteValue.method z f #[v] = (do match ← ReflectliteValue.parts v with | none => z | some (t, a, fl) => f t a fl (fl % 32)) := rfl
theorem rls (v x : Value) : ReflectliteValue.set #[v, x] = (do
  let (some (dst, a, fl), some (src, b, _)) := (← ReflectliteValue.parts v, ← ReflectliteValue.parts x)
   | unsupported (.noEntry "extern/(internal/reflectlite.Value).Set.zeroValue")
  if fl / ReflectliteValue.flagAddr % 2 == 0 then unsupported (.noEntry "extern/(internal/reflectlite.Value).Set.unaddressable")
  let val ← loadVar src b
  if ← Rtype.directlyAssignable dst src then storeVar dst a val
  else if ← Rtype.implements dst src then
   if (← Rtype.kind src) == 20 then
    match val with
    | .nilIface => unsupported (.noEntry "extern/reflectlite: a nil value of one interface type handed on as a value of another")
    | _ => storeVar dst a val
   else storeVar dst a (.iface src val)
  else panicString ("reflectlite.Set: value of type " ++ (← Rtype.spelt src) ++ " is not assignable to type " ++ (← Rtype.spelt dst))
  pure (.tuple #[])) := rfl
inductive Out (w : World) (t : Addr) : Option Value → Ending → World → Prop
 | no {w' : World} : Go.Ai.Ext w w' → Out w t none (.returned (.bool false)) w'
 | yes {w1 w' : World} {v : Value} : Go.Ai.Ext w w1 → w' = w1.setCell t v → Out w t (some v) (.returned (.bool true)) w'
theorem unwrapW (b o : Nat) (e : Value) (w : World) (h : w.cell? ⟨b, o + 1, none⟩ = some e) : Calls prog 188 #[.pointer (some ⟨b, o, none⟩)] w fun en w' => en = .returned e ∧ w' = w := by
 go_enter func188, ntmps188
 go_wp2
 go_ret
 exact ⟨rfl, rfl⟩
theorem unwrapF (b o : Nat) (e : Value) (w : World) (h : w.cell? ⟨b, o + 1, none⟩ = some e) : Calls prog 201 #[.pointer (some ⟨b, o, none⟩)] w fun en w' => en = .returned e ∧ w' = w := by
 go_enter func201, ntmps201
 go_wp2
 go_ret
 exact ⟨rfl, rfl⟩
theorem mKind (h : Value) (w : World) : (Go.method 351 171 (.agg #[h]) "Kind").run prog w = .ok (179, h) w := by kernel_rfl
theorem mElem (h : Value) (w : World) : (Go.method 351 171 (.agg #[h]) "Elem").run prog w = .ok (192, .agg #[h]) w := by kernel_rfl
theorem mImplements (h : Value) (w : World) : (Go.method 351 171 (.agg #[h]) "Implements").run prog w = .ok (193, .agg #[h]) w := by kernel_rfl
theorem mAssignableTo (h : Value) (w : World) : (Go.method 351 171 (.agg #[h]) "AssignableTo").run prog w = .ok (190, .agg #[h]) w := by kernel_rfl
theorem mUnwrapW (a : Addr) (w : World) : (Go.method 351 140 (.pointer (some a)) "Unwrap").run prog w = .ok (188, .pointer (some a)) w := by kernel_rfl
theorem mUnwrapF (a : Addr) (w : World) : (Go.method 351 190 (.pointer (some a)) "Unwrap").run prog w = .ok (201, .pointer (some a)) w := by kernel_rfl
theorem typeOf45 (v : Value) (w : World) : (ReflectliteType.typeOf #[.iface 45 v]).run prog w = .ok (.iface 171 (.agg #[.pointer (some ⟨2, 45, none⟩)])) w := by kernel_rfl
theorem noAs45 (v : Value) (xT : TypeId) (w : World) : (Instr.typeAssert (.iface 45 v) xT 176 true).run prog w = .ok (.tuple #[.nilIface, .bool false]) w :=
 run_typeAssert_lacksB underlying176 (by kernel_rfl) (by kernel_rfl) v xT w
theorem noUnw45 (v : Value) (xT : TypeId) (w : World) : (Instr.typeAssert (.iface 45 v) xT 179 true).run prog w = .ok (.tuple #[.nilIface, .bool false]) w :=
 run_typeAssert_lacksB underlying179 (by kernel_rfl) (by kernel_rfl) v xT w
theorem noUnws45 (v : Value) (xT : TypeId) (w : World) : (Instr.typeAssert (.iface 45 v) xT 181 true).run prog w = .ok (.tuple #[.nilIface, .bool false]) w :=
 run_typeAssert_lacksB underlying181 (by kernel_rfl) (by kernel_rfl) v xT w
theorem typeOf140 (v : Value) (w : World) : (ReflectliteType.typeOf #[.iface 140 v]).run prog w = .ok (.iface 171 (.agg #[.pointer (some ⟨2, 140, none⟩)])) w := by kernel_rfl
theorem noAs140 (v : Value) (xT : TypeId) (w : World) : (Instr.typeAssert (.iface 140 v) xT 176 true).run prog w = .ok (.tuple #[.nilIface, .bool false]) w :=
 run_typeAssert_lacksB underlying176 (by kernel_rfl) (by kernel_rfl) v xT w
theorem isUnw140 (v : Value) (xT : TypeId) (w : World) : (Instr.typeAssert (.iface 140 v) xT 179 true).run prog w = .ok (.tuple #[.iface 140 v, .bool true]) w :=
 run_typeAssert_hasB underlying179 (by kernel_rfl) v xT w
theorem typeOf190 (v : Value) (w : World) : (ReflectliteType.typeOf #[.iface 190 v]).run prog w = .ok (.iface 171 (.agg #[.pointer (some ⟨2, 190, none⟩)])) w := by kernel_rfl
theorem noAs190 (v : Value) (xT : TypeId) (w : World) : (Instr.typeAssert (.iface 190 v) xT 176 true).run prog w = .ok (.tuple #[.nilIface, .bool false]) w :=
 run_typeAssert_lacksB underlying176 (by kernel_rfl) (by kernel_rfl) v xT w
theorem isUnw190 (v : Value) (xT : TypeId) (w : World) : (Instr.typeAssert (.iface 190 v) xT 179 true).run prog w = .ok (.tuple #[.iface 190 v, .bool true]) w :=
 run_typeAssert_hasB underlying179 (by kernel_rfl) v xT w
theorem ass45_45 (w : World) : (ReflectliteType.relation "AssignableTo" ReflectliteType.assignableTo #[.agg #[.pointer (some ⟨2, 45, none⟩)], .iface 171 (.agg #[.pointer (some ⟨2, 45, none⟩)])]).run prog w = .ok (.bool true) w := by kernel_rfl
theorem ass140_45 (w : World) : (ReflectliteType.relation "AssignableTo" ReflectliteType.assignableTo #[.agg #[.pointer (some ⟨2, 140, none⟩)], .iface 171 (.agg #[.pointer (some ⟨2, 45, none⟩)])]).run prog w = .ok (.bool false) w := by kernel_rfl
theorem ass190_45 (w : World) : (ReflectliteType.relation "AssignableTo" ReflectliteType.assignableTo #[.agg #[.pointer (some ⟨2, 190, none⟩)], .iface 171 (.agg #[.pointer (some ⟨2, 45, none⟩)])]).run prog w = .ok (.bool false) w := by kernel_rfl
theorem valueOf94 (t : Addr) (w : World) : (ReflectliteValue.unpack (.iface 94 (.pointer (some t)))).run prog w
  = .ok (.agg #[.pointer (some ⟨2, 94, none⟩), .pointer (some ⟨w.heap.size, 0, none⟩), .int .u64 150]) (w.alloc (.cells #[.pointer (some t)] 94)) := by kernel_rfl
theorem type94 (a : Addr) (w : World) : (ReflectliteValue.methodAny (ReflectliteValue.valueError "reflectlite.Value.Type" 0) (fun t _ _ _ => ReflectliteType.toType t) #[.agg #[.pointer (some ⟨2, 94, none⟩), .pointer (some a), .int .u64 150]]).run prog w
  = .ok (.iface 171 (.agg #[.pointer (some ⟨2, 94, none⟩)])) w := by kernel_rfl
theorem kind94 (w : World) : ((ReflectliteType.abiMethod fun t => (fun a : Nat => Value.int IntKind.u8 (a : Int)) <$> Rtype.kind t) #[.pointer (some ⟨2, 94, none⟩)]).run prog w = .ok (.int .u8 22) w := by kernel_rfl
theorem kind45 (w : World) : ((ReflectliteType.abiMethod fun t => (fun a : Nat => Value.int IntKind.u8 (a : Int)) <$> Rtype.kind t) #[.pointer (some ⟨2, 45, none⟩)]).run prog w = .ok (.int .u8 2) w := by kernel_rfl
theorem parts94 (a : Addr) (w : World) : (ReflectliteValue.parts (.agg #[.pointer (some ⟨2, 94, none⟩), .pointer (some a), .int .u64 150])).run prog w = .ok (some (94, a, 150)) w := by kernel_rfl
theorem isNil94 (a p : Addr) (W : World) (ha : W.cell? a = some (.pointer (some p))) :
  (ReflectliteValue.method (ReflectliteValue.valueError "reflectlite.Value.IsNil" 0) ReflectliteValue.isNil #[.agg #[.pointer (some ⟨2, 94, none⟩), .pointer (some a), .int .u64 150]]).run prog W = .ok (.bool false) W := by
 rw [rlm]
 simp only [Sem.run_bind, parts94, Result.andThen]
 simp [ReflectliteValue.isNil, loadVar, isAgg, underlying, underlying94, ha, Result.andThen]
theorem elem94 (w : World) : (ReflectliteType.method ReflectliteType.elem #[.agg #[.pointer (some ⟨2, 94, none⟩)]]).run prog w = .ok (.iface 171 (.agg #[.pointer (some ⟨2, 45, none⟩)])) w := by kernel_rfl
theorem implements45 (w : World) : (ReflectliteType.relation "Implements" ReflectliteType.implements_ #[.agg #[.pointer (some ⟨2, 45, none⟩)], .iface 171 (.agg #[.pointer (some ⟨2, 30, none⟩)])]).run prog w = .ok (.bool true) w := by kernel_rfl
theorem valueOfE45 (n : Int) (w : World) : (ReflectliteValue.unpack (.iface 45 (.int .i64 n))).run prog w
  = .ok (.agg #[.pointer (some ⟨2, 45, none⟩), .pointer (some ⟨w.heap.size, 0, none⟩), .int .u64 130]) (w.alloc (.cells #[(.int .i64 n)] 45)) := by kernel_rfl
theorem elemOf94 (w : World) : (Rtype.elem? 94).run prog w = .ok (some 45) w := by kernel_rfl
theorem mk45 (p : Addr) (w : World) : (ReflectliteValue.mk 45 p ReflectliteValue.flagAddr).run prog w = .ok (.agg #[.pointer (some ⟨2, 45, none⟩), .pointer (some p), .int .u64 386]) w := by kernel_rfl
theorem elemV94 (a p : Addr) (W : World) (ha : W.cell? a = some (.pointer (some p))) :
  (ReflectliteValue.method (ReflectliteValue.valueError "reflectlite.Value.Elem" 0) ReflectliteValue.elem #[.agg #[.pointer (some ⟨2, 94, none⟩), .pointer (some a), .int .u64 150]]).run prog W
   = .ok (.agg #[.pointer (some ⟨2, 45, none⟩), .pointer (some p), .int .u64 386]) W := by
 rw [rlm]
 simp only [Sem.run_bind, parts94, Result.andThen]
 simp [ReflectliteValue.elem, loadVar, isAgg, underlying, underlying94, ha, Result.andThen, elemOf94, mk45]
theorem partsA45 (a : Addr) (w : World) : (ReflectliteValue.parts (.agg #[.pointer (some ⟨2, 45, none⟩), .pointer (some a), .int .u64 386])).run prog w = .ok (some (45, a, 386)) w := by kernel_rfl
theorem partsV45 (a : Addr) (w : World) : (ReflectliteValue.parts (.agg #[.pointer (some ⟨2, 45, none⟩), .pointer (some a), .int .u64 130])).run prog w = .ok (some (45, a, 130)) w := by kernel_rfl
theorem direct45 (w : World) : (Rtype.directlyAssignable 45 45).run prog w = .ok true w := by kernel_rfl
theorem set45 (ta b : Addr) (n : Int) (old : Value) (W : World) (hb : W.cell? b = some (.int .i64 n)) (ht : W.cell? ta = some old) (hf : W.frozen? ta = false) :
  (ReflectliteValue.set #[.agg #[.pointer (some ⟨2, 45, none⟩), .pointer (some ta), .int .u64 386], .agg #[.pointer (some ⟨2, 45, none⟩), .pointer (some b), .int .u64 130]]).run prog W
   = .ok (.tuple #[]) (W.setCell ta (.int .i64 n)) := by
 rw [rls]
 simp only [Sem.run_bind, partsA45, partsV45, Result.andThen]
 simp [ReflectliteValue.flagAddr, loadVar, isAgg, underlying, underlying45, hb, Result.andThen, direct45, storeVar, Value.cells, storeCells, Addr.add]
 rw [run_store prog W ta _ _ (by rfl)]
 simp [ht, hf]
inductive Ch45 (w : World) : Nat → Value → Option Value → Prop
 | hit {n : Int} : Ch45 w 0 (.iface 45 (.int .i64 n)) (some (.int .i64 n))
 | where_ {b o : Nat} {e : Value} {r : Option Value} {n : Nat} : w.cell? ⟨b, o + 1, none⟩ = some e → Ch45 w n e r → Ch45 w (n + 1) (.iface 140 (.pointer (some ⟨b, o, none⟩))) r
 | field {b o : Nat} {e : Value} {r : Option Value} {n : Nat} : w.cell? ⟨b, o + 1, none⟩ = some e → Ch45 w n e r → Ch45 w (n + 1) (.iface 190 (.pointer (some ⟨b, o, none⟩))) r
 | fieldNil {b o : Nat} : w.cell? ⟨b, o + 1, none⟩ = some .nilIface → Ch45 w 0 (.iface 190 (.pointer (some ⟨b, o, none⟩))) none
 | whereNil {b o : Nat} : w.cell? ⟨b, o + 1, none⟩ = some .nilIface → Ch45 w 0 (.iface 140 (.pointer (some ⟨b, o, none⟩))) none
theorem Ch45.iface {w : World} {n : Nat} {e : Value} {r : Option Value} (h : Ch45 w n e r) : ∃ ty v, e = .iface ty v := by cases h <;> exact ⟨_, _, rfl⟩
theorem as_loop45 (e : Value) (n : Nat) (r : Option Value) (a t : Addr) (old : Value) (w : World) (tg : Value) (hch : Ch45 w n e r) (ha : w.cell? a = some (.pointer (some t))) (ht0 : w.cell? t = some old) (hf0 : w.frozen? t = false) :
  Calls prog 85 #[e, tg, .agg #[.pointer (some ⟨2, 94, none⟩), .pointer (some a), .int .u64 150], .iface 171 (.agg #[.pointer (some ⟨2, 45, none⟩)])] w fun ev w' =>
  Out w t r ev w' := by
 have hal : a.block < w.heap.size := by
  rcases Nat.lt_or_ge a.block w.heap.size with h | h
  ·exact h
  ·simp [World.cell?, Array.getElem?_eq_none h] at ha
 have htl : t.block < w.heap.size := by
  rcases Nat.lt_or_ge t.block w.heap.size with h | h
  ·exact h
  ·simp [World.cell?, Array.getElem?_eq_none h] at ht0
 have hR : ∀ wr : World, Go.Ai.Ext (w.alloc (.cells #[.pointer (some ⟨2, 94, none⟩), .pointer (some a), .int .u64 150] 129)) wr → Go.Ai.Ext w wr ∧ wr.cell? a = some (.pointer (some t)) ∧ wr.cell? t = some old ∧ wr.frozen? t = false ∧ t.block < wr.heap.size ∧
   wr.cell? ⟨w.heap.size, 0, none⟩ = some (.pointer (some ⟨2, 94, none⟩)) ∧ wr.cell? ⟨w.heap.size, 1, none⟩ = some (.pointer (some a)) ∧ wr.cell? ⟨w.heap.size, 2, none⟩ = some (.int .u64 150) := by
  intro wr h
  have h0 : Go.Ai.Ext w wr := (Go.Ai.Ext.alloc w _).trans h
  have hb : w.heap.size < (w.alloc (.cells #[.pointer (some ⟨2, 94, none⟩), .pointer (some a), .int .u64 150] 129)).heap.size := by simp
  refine ⟨h0, (World.cell?_of_block (h0.block _ hal)).trans ha, (World.cell?_of_block (h0.block _ htl)).trans ht0, (World.frozen?_of_block (h0.block _ htl)).trans hf0, Nat.lt_of_lt_of_le htl h0.size, ?_, ?_, ?_⟩
  ·rw [h.cell hb]; simp
  ·rw [h.cell hb]; simp
  ·rw [h.cell hb]; simp
 have hTypeOf := @run_callFunc_extern prog 114 _ ReflectliteType.typeOf func114 (by kernel_rfl) (by kernel_rfl) (by kernel_rfl) (by kernel_rfl)
 have hAT := @run_callFunc_extern prog 190 _ (ReflectliteType.relation "AssignableTo" ReflectliteType.assignableTo) func190 (by kernel_rfl) (by kernel_rfl) (by kernel_rfl) (by kernel_rfl)
 have hElem := @run_callFunc_extern prog 115 _ (ReflectliteValue.method (ReflectliteValue.valueError "reflectlite.Value.Elem" 0) ReflectliteValue.elem) func115 (by kernel_rfl) (by kernel_rfl) (by kernel_rfl) (by kernel_rfl)
 have hVO := @run_callFunc_extern prog 82 _ (fun args => ReflectliteValue.unpack (args.getD 0 (.tuple #[]))) func82 (by kernel_rfl) (by kernel_rfl) (by kernel_rfl) (by kernel_rfl)
 have hSet := @run_callFunc_extern prog 116 _ ReflectliteValue.set func116 (by kernel_rfl) (by kernel_rfl) (by kernel_rfl) (by kernel_rfl)
 have mA := mAssignableTo
 have tO1 := typeOf45
 have tO2 := typeOf140
 have tO3 := typeOf190
 have as1 := ass45_45
 have as2 := ass140_45
 have as3 := ass190_45
 have nA1 := noAs45
 have nA2 := noAs140
 have nA3 := noAs190
 have u1 := noUnw45
 have u2 := isUnw140
 have u3 := isUnw190
 have us1 := noUnws45
 have mUW := mUnwrapW
 have mUF := mUnwrapF
 have vE := valueOfE45
 have enW : ∀ args w, (callFunc 188 args).run prog w = .ok (.enter 188 args) w := Go.Ai.enters_of func188 rfl (by kernel_rfl)
 have enF : ∀ args w, (callFunc 201 args).run prog w = .ok (.enter 201 args) w := Go.Ai.enters_of func201 rfl (by kernel_rfl)
 go_enter func85, ntmps85
 go_wp2
 go_loopg [0] n (fun k x wr => Ch45 w k x r ∧ Go.Ai.Ext (w.alloc (.cells #[.pointer (some ⟨2, 94, none⟩), .pointer (some a), .int .u64 150] 129)) wr)
 case atStart => exact ⟨hch, Go.Ai.Ext.refl _⟩
 case round =>
  obtain ⟨hc, hx⟩ := hrel
  obtain ⟨hx0, ca, ct, cf, hlt, c0, c1, c2⟩ := hR wr hx
  cases hc with
  | @hit x =>
   have el := elemV94 a t wr ca
   have st := set45 t ⟨wr.heap.size, 0, none⟩ x old (wr.alloc (.cells #[(.int .i64 x)] 45)) (by simp) (by rw [World.cell?_alloc_lt _ _ t hlt]; exact ct) (by rw [World.frozen?_alloc_old _ _ t (Nat.ne_of_lt hlt)]; exact cf)
   go_wp2
   go_ret
   exact .yes (hx0.trans (Go.Ai.Ext.alloc _ _)) rfl
  | @where_ b o e' _ n' he hc' =>
   have hb : b < w.heap.size := by
    rcases Nat.lt_or_ge b w.heap.size with h | h
    ·exact h
    ·simp [World.cell?, Array.getElem?_eq_none h] at he
   have he' : wr.cell? ⟨b, o + 1, none⟩ = some e' := (hx0.cell hb).trans he
   obtain ⟨ty, v, rfl⟩ := hc'.iface
   go_wp2_with (go_at_call 188; refine (unwrapW b o _ _ he').mono ?_; rintro en w' ⟨rfl, rfl⟩)
   go_roundg n'
   case measure => omega
   case rel => exact ⟨hc', hx⟩
  | @whereNil b o he =>
   have hb : b < w.heap.size := by
    rcases Nat.lt_or_ge b w.heap.size with h | h
    ·exact h
    ·simp [World.cell?, Array.getElem?_eq_none h] at he
   have he' : wr.cell? ⟨b, o + 1, none⟩ = some .nilIface := (hx0.cell hb).trans he
   go_wp2_with (go_at_call 188; refine (unwrapW b o _ _ he').mono ?_; rintro en w' ⟨rfl, rfl⟩)
   go_ret
   exact .no hx0
  | @field b o e' _ n' he hc' =>
   have hb : b < w.heap.size := by
    rcases Nat.lt_or_ge b w.heap.size with h | h
    ·exact h
    ·simp [World.cell?, Array.getElem?_eq_none h] at he
   have he' : wr.cell? ⟨b, o + 1, none⟩ = some e' := (hx0.cell hb).trans he
   obtain ⟨ty, v, rfl⟩ := hc'.iface
   go_wp2_with (go_at_call 201; refine (unwrapF b o _ _ he').mono ?_; rintro en w' ⟨rfl, rfl⟩)
   go_roundg n'
   case measure => omega
   case rel => exact ⟨hc', hx⟩
  | @fieldNil b o he =>
   have hb : b < w.heap.size := by
    rcases Nat.lt_or_ge b w.heap.size with h | h
    ·exact h
    ·simp [World.cell?, Array.getElem?_eq_none h] at he
   have he' : wr.cell? ⟨b, o + 1, none⟩ = some .nilIface := (hx0.cell hb).trans he
   go_wp2_with (go_at_call 201; refine (unwrapF b o _ _ he').mono ?_; rintro en w' ⟨rfl, rfl⟩)
   go_ret
   exact .no hx0
theorem Ch45.mono {w w' : World} (hx : Go.Ai.Ext w w') {n : Nat} {e : Value} {r : Option Value} (h : Ch45 w n e r) : Ch45 w' n e r := by
 have key : ∀ {b o : Nat} {e : Value}, w.cell? ⟨b, o, none⟩ = some e → w'.cell? ⟨b, o, none⟩ = some e := by
  intro b o e he
  have hb : b < w.heap.size := by
   rcases Nat.lt_or_ge b w.heap.size with h | h
   ·exact h
   ·simp [World.cell?, Array.getElem?_eq_none h] at he
  exact (hx.cell hb).trans he
 induction h with
 | hit => exact .hit
 | where_ h _ ih => exact .where_ (key h) ih
 | whereNil h => exact .whereNil (key h)
 | field h _ ih => exact .field (key h) ih
 | fieldNil h => exact .fieldNil (key h)
theorem as_45 (e : Value) (n : Nat) (r : Option Value) (t : Addr) (old : Value) (w : World) (hch : Ch45 w n e r) (hg : w.cell? ⟨0, 0, none⟩ = some (.iface 171 (.agg #[.pointer (some ⟨2, 30, none⟩)]))) (ht0 : w.cell? t = some old) (hf0 : w.frozen? t = false) :
  Calls prog 52 #[e, .iface 94 (.pointer (some t))] w fun ev w' => Out w t r ev w' := by
 have htl : t.block < w.heap.size := by
  rcases Nat.lt_or_ge t.block w.heap.size with h | h
  ·exact h
  ·simp [World.cell?, Array.getElem?_eq_none h] at ht0
 have h0l : 0 < w.heap.size := by
  rcases Nat.eq_zero_or_pos w.heap.size with h0 | h
  ·simp [World.cell?, h0] at hg
  ·exact h
 have h6 := @run_callFunc_extern prog 82 _ (fun args => ReflectliteValue.unpack (args.getD 0 (.tuple #[]))) func82 (by kernel_rfl) (by kernel_rfl) (by kernel_rfl) (by kernel_rfl)
 have h7 := @run_callFunc_extern prog 83 _ (ReflectliteValue.methodAny (ReflectliteValue.valueError "reflectlite.Value.Type" 0) (fun t _ _ _ => ReflectliteType.toType t)) func83 (by kernel_rfl) (by kernel_rfl) (by kernel_rfl) (by kernel_rfl)
 have h8 := @run_callFunc_extern prog 84 _ (ReflectliteValue.method (ReflectliteValue.valueError "reflectlite.Value.IsNil" 0) ReflectliteValue.isNil) func84 (by kernel_rfl) (by kernel_rfl) (by kernel_rfl) (by kernel_rfl)
 have h27 := @run_callFunc_extern prog 179 _ (ReflectliteType.abiMethod fun t => do pure (.int .u8 (← Rtype.kind t))) func179 (by kernel_rfl) (by kernel_rfl) (by kernel_rfl) (by kernel_rfl)
 have h37 := @run_callFunc_extern prog 192 _ (ReflectliteType.method ReflectliteType.elem) func192 (by kernel_rfl) (by kernel_rfl) (by kernel_rfl) (by kernel_rfl)
 have h38 := @run_callFunc_extern prog 193 _ (ReflectliteType.relation "Implements" ReflectliteType.implements_) func193 (by kernel_rfl) (by kernel_rfl) (by kernel_rfl) (by kernel_rfl)
 have f6 := valueOf94
 have f7 := type94
 have mK := mKind
 have mE := mElem
 have mI := mImplements
 have k27 := kind94
 have k25 := kind45
 have e27 := elem94
 have i25 := implements45
 have n8 := isNil94 ⟨w.heap.size, 0, none⟩ t ((w.alloc (.cells #[.pointer (some t)] 94)).alloc (.cells #[.pointer (some ⟨2, 94, none⟩), .pointer (some ⟨w.heap.size, 0, none⟩), .int .u64 150] 129)) (by simp)
 have hg2 : ((w.alloc (.cells #[.pointer (some t)] 94)).alloc (.cells #[.pointer (some ⟨2, 94, none⟩), .pointer (some ⟨w.heap.size, 0, none⟩), .int .u64 150] 129)).cell? ⟨0, 0, none⟩ = some (.iface 171 (.agg #[.pointer (some ⟨2, 30, none⟩)])) := by
  rw [World.cell?_alloc_lt _ _ ⟨0, 0, none⟩ (by simp), World.cell?_alloc_lt _ _ ⟨0, 0, none⟩ h0l]; exact hg
 have hx : Go.Ai.Ext w ((w.alloc (.cells #[.pointer (some t)] 94)).alloc (.cells #[.pointer (some ⟨2, 94, none⟩), .pointer (some ⟨w.heap.size, 0, none⟩), .int .u64 150] 129)) := (Go.Ai.Ext.alloc w _).trans (Go.Ai.Ext.alloc _ _)
 have hloop := as_loop45 e n r ⟨w.heap.size, 0, none⟩ t old ((w.alloc (.cells #[.pointer (some t)] 94)).alloc (.cells #[.pointer (some ⟨2, 94, none⟩), .pointer (some ⟨w.heap.size, 0, none⟩), .int .u64 150] 129)) (.iface 94 (.pointer (some t)))
  (hch.mono hx) (by simp) ((World.cell?_of_block (hx.block _ htl)).trans ht0) ((World.frozen?_of_block (hx.block _ htl)).trans hf0)
 obtain ⟨ty, v, rfl⟩ := hch.iface
 have enA : ∀ args w, (callFunc 85 args).run prog w = .ok (.enter 85 args) w := Go.Ai.enters_of func85 rfl (by kernel_rfl)
 go_enter func52, ntmps52
 go_wp2_with (go_at_call 85; refine hloop.mono ?_; rintro en w' ho)
 cases ho with
 | no hx' =>
  go_wp2
  go_ret
  exact .no (hx.trans hx')
 | yes hx' he =>
  subst he
  go_wp2
  go_ret
  exact .yes (hx.trans hx') rfl
theorem ass45_140 (w : World) : (ReflectliteType.relation "AssignableTo" ReflectliteType.assignableTo #[.agg #[.pointer (some ⟨2, 45, none⟩)], .iface 171 (.agg #[.pointer (some ⟨2, 140, none⟩)])]).run prog w = .ok (.bool false) w := by kernel_rfl
theorem ass140_140 (w : World) : (ReflectliteType.relation "AssignableTo" ReflectliteType.assignableTo #[.agg #[.pointer (some ⟨2, 140, none⟩)], .iface 171 (.agg #[.pointer (some ⟨2, 140, none⟩)])]).run prog w = .ok (.bool true) w := by kernel_rfl
theorem ass190_140 (w : World) : (ReflectliteType.relation "AssignableTo" ReflectliteType.assignableTo #[.agg #[.pointer (some ⟨2, 190, none⟩)], .iface 171 (.agg #[.pointer (some ⟨2, 140, none⟩)])]).run prog w = .ok (.bool false) w := by kernel_rfl
theorem valueOf141 (t : Addr) (w : World) : (ReflectliteValue.unpack (.iface 141 (.pointer (some t)))).run prog w
  = .ok (.agg #[.pointer (some ⟨2, 141, none⟩), .pointer (some ⟨w.heap.size, 0, none⟩), .int .u64 150]) (w.alloc (.cells #[.pointer (some t)] 141)) := by kernel_rfl
theorem type141 (a : Addr) (w : World) : (ReflectliteValue.methodAny (ReflectliteValue.valueError "reflectlite.Value.Type" 0) (fun t _ _ _ => ReflectliteType.toType t) #[.agg #[.pointer (some ⟨2, 141, none⟩), .pointer (some a), .int .u64 150]]).run prog w
  = .ok (.iface 171 (.agg #[.pointer (some ⟨2, 141, none⟩)])) w := by kernel_rfl
theorem kind141 (w : World) : ((ReflectliteType.abiMethod fun t => (fun a : Nat => Value.int IntKind.u8 (a : Int)) <$> Rtype.kind t) #[.pointer (some ⟨2, 141, none⟩)]).run prog w = .ok (.int .u8 22) w := by kernel_rfl
theorem kind140 (w : World) : ((ReflectliteType.abiMethod fun t => (fun a : Nat => Value.int IntKind.u8 (a : Int)) <$> Rtype.kind t) #[.pointer (some ⟨2, 140, none⟩)]).run prog w = .ok (.int .u8 22) w := by kernel_rfl
theorem parts141 (a : Addr) (w : World) : (ReflectliteValue.parts (.agg #[.pointer (some ⟨2, 141, none⟩), .pointer (some a), .int .u64 150])).run prog w = .ok (some (141, a, 150)) w := by kernel_rfl
theorem isNil141 (a p : Addr) (W : World) (ha : W.cell? a = some (.pointer (some p))) :
  (ReflectliteValue.method (ReflectliteValue.valueError "reflectlite.Value.IsNil" 0) ReflectliteValue.isNil #[.agg #[.pointer (some ⟨2, 141, none⟩), .pointer (some a), .int .u64 150]]).run prog W = .ok (.bool false) W := by
 rw [rlm]
 simp only [Sem.run_bind, parts141, Result.andThen]
 simp [ReflectliteValue.isNil, loadVar, isAgg, underlying, underlying141, ha, Result.andThen]
theorem elem141 (w : World) : (ReflectliteType.method ReflectliteType.elem #[.agg #[.pointer (some ⟨2, 141, none⟩)]]).run prog w = .ok (.iface 171 (.agg #[.pointer (some ⟨2, 140, none⟩)])) w := by kernel_rfl
theorem implements140 (w : World) : (ReflectliteType.relation "Implements" ReflectliteType.implements_ #[.agg #[.pointer (some ⟨2, 140, none⟩)], .iface 171 (.agg #[.pointer (some ⟨2, 30, none⟩)])]).run prog w = .ok (.bool true) w := by kernel_rfl
theorem valueOfE140 (p : Addr) (w : World) : (ReflectliteValue.unpack (.iface 140 (.pointer (some p)))).run prog w
  = .ok (.agg #[.pointer (some ⟨2, 140, none⟩), .pointer (some ⟨w.heap.size, 0, none⟩), .int .u64 150]) (w.alloc (.cells #[(.pointer (some p))] 140)) := by kernel_rfl
theorem elemOf141 (w : World) : (Rtype.elem? 141).run prog w = .ok (some 140) w := by kernel_rfl
theorem mk140 (p : Addr) (w : World) : (ReflectliteValue.mk 140 p ReflectliteValue.flagAddr).run prog w = .ok (.agg #[.pointer (some ⟨2, 140, none⟩), .pointer (some p), .int .u64 406]) w := by kernel_rfl
theorem elemV141 (a p : Addr) (W : World) (ha : W.cell? a = some (.pointer (some p))) :
  (ReflectliteValue.method (ReflectliteValue.valueError "reflectlite.Value.Elem" 0) ReflectliteValue.elem #[.agg #[.pointer (some ⟨2, 141, none⟩), .pointer (some a), .int .u64 150]]).run prog W
   = .ok (.agg #[.pointer (some ⟨2, 140, none⟩), .pointer (some p), .int .u64 406]) W := by
 rw [rlm]
 simp only [Sem.run_bind, parts141, Result.andThen]
 simp [ReflectliteValue.elem, loadVar, isAgg, underlying, underlying141, ha, Result.andThen, elemOf141, mk140]
theorem partsA140 (a : Addr) (w : World) : (ReflectliteValue.parts (.agg #[.pointer (some ⟨2, 140, none⟩), .pointer (some a), .int .u64 406])).run prog w = .ok (some (140, a, 406)) w := by kernel_rfl
theorem partsV140 (a : Addr) (w : World) : (ReflectliteValue.parts (.agg #[.pointer (some ⟨2, 140, none⟩), .pointer (some a), .int .u64 150])).run prog w = .ok (some (140, a, 150)) w := by kernel_rfl
theorem direct140 (w : World) : (Rtype.directlyAssignable 140 140).run prog w = .ok true w := by kernel_rfl
theorem set140 (ta b : Addr) (p : Addr) (old : Value) (W : World) (hb : W.cell? b = some (.pointer (some p))) (ht : W.cell? ta = some old) (hf : W.frozen? ta = false) :
  (ReflectliteValue.set #[.agg #[.pointer (some ⟨2, 140, none⟩), .pointer (some ta), .int .u64 406], .agg #[.pointer (some ⟨2, 140, none⟩), .pointer (some b), .int .u64 150]]).run prog W
   = .ok (.tuple #[]) (W.setCell ta (.pointer (some p))) := by
 rw [rls]
 simp only [Sem.run_bind, partsA140, partsV140, Result.andThen]
 simp [ReflectliteValue.flagAddr, loadVar, isAgg, underlying, underlying140, hb, Result.andThen, direct140, storeVar, Value.cells, storeCells, Addr.add]
 rw [run_store prog W ta _ _ (by rfl)]
 simp [ht, hf]
inductive Ch140 (w : World) : Nat → Value → Option Value → Prop
 | hit {p : Addr} : Ch140 w 0 (.iface 140 (.pointer (some p))) (some (.pointer (some p)))
 | code {v : Value} : Ch140 w 0 (.iface 45 v) none
 | field {b o : Nat} {e : Value} {r : Option Value} {n : Nat} : w.cell? ⟨b, o + 1, none⟩ = some e → Ch140 w n e r → Ch140 w (n + 1) (.iface 190 (.pointer (some ⟨b, o, none⟩))) r
 | fieldNil {b o : Nat} : w.cell? ⟨b, o + 1, none⟩ = some .nilIface → Ch140 w 0 (.iface 190 (.pointer (some ⟨b, o, none⟩))) none
theorem Ch140.iface {w : World} {n : Nat} {e : Value} {r : Option Value} (h : Ch140 w n e r) : ∃ ty v, e = .iface ty v := by cases h <;> exact ⟨_, _, rfl⟩
theorem as_loop140 (e : Value) (n : Nat) (r : Option Value) (a t : Addr) (old : Value) (w : World) (tg : Value) (hch : Ch140 w n e r) (ha : w.cell? a = some (.pointer (some t))) (ht0 : w.cell? t = some old) (hf0 : w.frozen? t = false) :
  Calls prog 85 #[e, tg, .agg #[.pointer (some ⟨2, 141, none⟩), .pointer (some a), .int .u64 150], .iface 171 (.agg #[.pointer (some ⟨2, 140, none⟩)])] w fun ev w' =>
  Out w t r ev w' := by
 have hal : a.block < w.heap.size := by
  rcases Nat.lt_or_ge a.block w.heap.size with h | h
  ·exact h
  ·simp [World.cell?, Array.getElem?_eq_none h] at ha
 have htl : t.block < w.heap.size := by
  rcases Nat.lt_or_ge t.block w.heap.size with h | h
  ·exact h
  ·simp [World.cell?, Array.getElem?_eq_none h] at ht0
 have hR : ∀ wr : World, Go.Ai.Ext (w.alloc (.cells #[.pointer (some ⟨2, 141, none⟩), .pointer (some a), .int .u64 150] 129)) wr → Go.Ai.Ext w wr ∧ wr.cell? a = some (.pointer (some t)) ∧ wr.cell? t = some old ∧ wr.frozen? t = false ∧ t.block < wr.heap.size ∧
   wr.cell? ⟨w.heap.size, 0, none⟩ = some (.pointer (some ⟨2, 141, none⟩)) ∧ wr.cell? ⟨w.heap.size, 1, none⟩ = some (.pointer (some a)) ∧ wr.cell? ⟨w.heap.size, 2, none⟩ = some (.int .u64 150) := by
  intro wr h
  have h0 : Go.Ai.Ext w wr := (Go.Ai.Ext.alloc w _).trans h
  have hb : w.heap.size < (w.alloc (.cells #[.pointer (some ⟨2, 141, none⟩), .pointer (some a), .int .u64 150] 129)).heap.size := by simp
  refine ⟨h0, (World.cell?_of_block (h0.block _ hal)).trans ha, (World.cell?_of_block (h0.block _ htl)).trans ht0, (World.frozen?_of_block (h0.block _ htl)).trans hf0, Nat.lt_of_lt_of_le htl h0.size, ?_, ?_, ?_⟩
  ·rw [h.cell hb]; simp
  ·rw [h.cell hb]; simp
  ·rw [h.cell hb]; simp
 have hTypeOf := @run_callFunc_extern prog 114 _ ReflectliteType.typeOf func114 (by kernel_rfl) (by kernel_rfl) (by kernel_rfl) (by kernel_rfl)
 have hAT := @run_callFunc_extern prog 190 _ (ReflectliteType.relation "AssignableTo" ReflectliteType.assignableTo) func190 (by kernel_rfl) (by kernel_rfl) (by kernel_rfl) (by kernel_rfl)
 have hElem := @run_callFunc_extern prog 115 _ (ReflectliteValue.method (ReflectliteValue.valueError "reflectlite.Value.Elem" 0) ReflectliteValue.elem) func115 (by kernel_rfl) (by kernel_rfl) (by kernel_rfl) (by kernel_rfl)
 have hVO := @run_callFunc_extern prog 82 _ (fun args => ReflectliteValue.unpack (args.getD 0 (.tuple #[]))) func82 (by kernel_rfl) (by kernel_rfl) (by kernel_rfl) (by kernel_rfl)
 have hSet := @run_callFunc_extern prog 116 _ ReflectliteValue.set func116 (by kernel_rfl) (by kernel_rfl) (by kernel_rfl) (by kernel_rfl)
 have mA := mAssignableTo
 have tO1 := typeOf45
 have tO2 := typeOf140
 have tO3 := typeOf190
 have as1 := ass45_140
 have as2 := ass140_140
 have as3 := ass190_140
 have nA1 := noAs45
 have nA2 := noAs140
 have nA3 := noAs190
 have u1 := noUnw45
 have u2 := isUnw140
 have u3 := isUnw190
 have us1 := noUnws45
 have mUW := mUnwrapW
 have mUF := mUnwrapF
 have vE := valueOfE140
 have enW : ∀ args w, (callFunc 188 args).run prog w = .ok (.enter 188 args) w := Go.Ai.enters_of func188 rfl (by kernel_rfl)
 have enF : ∀ args w, (callFunc 201 args).run prog w = .ok (.enter 201 args) w := Go.Ai.enters_of func201 rfl (by kernel_rfl)
 go_enter func85, ntmps85
 go_wp2
 go_loopg [0] n (fun k x wr => Ch140 w k x r ∧ Go.Ai.Ext (w.alloc (.cells #[.pointer (some ⟨2, 141, none⟩), .pointer (some a), .int .u64 150] 129)) wr)
 case atStart => exact ⟨hch, Go.Ai.Ext.refl _⟩
 case round =>
  obtain ⟨hc, hx⟩ := hrel
  obtain ⟨hx0, ca, ct, cf, hlt, c0, c1, c2⟩ := hR wr hx
  cases hc with
  | @hit x =>
   have el := elemV141 a t wr ca
   have st := set140 t ⟨wr.heap.size, 0, none⟩ x old (wr.alloc (.cells #[(.pointer (some x))] 140)) (by simp) (by rw [World.cell?_alloc_lt _ _ t hlt]; exact ct) (by rw [World.frozen?_alloc_old _ _ t (Nat.ne_of_lt hlt)]; exact cf)
   go_wp2
   go_ret
   exact .yes (hx0.trans (Go.Ai.Ext.alloc _ _)) rfl
  | code =>
   go_wp2
   go_ret
   exact .no hx0
  | @field b o e' _ n' he hc' =>
   have hb : b < w.heap.size := by
    rcases Nat.lt_or_ge b w.heap.size with h | h
    ·exact h
    ·simp [World.cell?, Array.getElem?_eq_none h] at he
   have he' : wr.cell? ⟨b, o + 1, none⟩ = some e' := (hx0.cell hb).trans he
   obtain ⟨ty, v, rfl⟩ := hc'.iface
   go_wp2_with (go_at_call 201; refine (unwrapF b o _ _ he').mono ?_; rintro en w' ⟨rfl, rfl⟩)
   go_roundg n'
   case measure => omega
   case rel => exact ⟨hc', hx⟩
  | @fieldNil b o he =>
   have hb : b < w.heap.size := by
    rcases Nat.lt_or_ge b w.heap.size with h | h
    ·exact h
    ·simp [World.cell?, Array.getElem?_eq_none h] at he
   have he' : wr.cell? ⟨b, o + 1, none⟩ = some .nilIface := (hx0.cell hb).trans he
   go_wp2_with (go_at_call 201; refine (unwrapF b o _ _ he').mono ?_; rintro en w' ⟨rfl, rfl⟩)
   go_ret
   exact .no hx0
theorem Ch140.mono {w w' : World} (hx : Go.Ai.Ext w w') {n : Nat} {e : Value} {r : Option Value} (h : Ch140 w n e r) : Ch140 w' n e r := by
 have key : ∀ {b o : Nat} {e : Value}, w.cell? ⟨b, o, none⟩ = some e → w'.cell? ⟨b, o, none⟩ = some e := by
  intro b o e he
  have hb : b < w.heap.size := by
   rcases Nat.lt_or_ge b w.heap.size with h | h
   ·exact h
   ·simp [World.cell?, Array.getElem?_eq_none h] at he
  exact (hx.cell hb).trans he
 induction h with
 | hit => exact .hit
 | code => exact .code
 | field h _ ih => exact .field (key h) ih
 | fieldNil h => exact .fieldNil (key h)
theorem as_140 (e : Value) (n : Nat) (r : Option Value) (t : Addr) (old : Value) (w : World) (hch : Ch140 w n e r) (hg : w.cell? ⟨0, 0, none⟩ = some (.iface 171 (.agg #[.pointer (some ⟨2, 30, none⟩)]))) (ht0 : w.cell? t = some old) (hf0 : w.frozen? t = false) :
  Calls prog 52 #[e, .iface 141 (.pointer (some t))] w fun ev w' => Out w t r ev w' := by
 have htl : t.block < w.heap.size := by
  rcases Nat.lt_or_ge t.block w.heap.size with h | h
  ·exact h
  ·simp [World.cell?, Array.getElem?_eq_none h] at ht0
 have h0l : 0 < w.heap.size := by
  rcases Nat.eq_zero_or_pos w.heap.size with h0 | h
  ·simp [World.cell?, h0] at hg
  ·exact h
 have h6 := @run_callFunc_extern prog 82 _ (fun args => ReflectliteValue.unpack (args.getD 0 (.tuple #[]))) func82 (by kernel_rfl) (by kernel_rfl) (by kernel_rfl) (by kernel_rfl)
 have h7 := @run_callFunc_extern prog 83 _ (ReflectliteValue.methodAny (ReflectliteValue.valueError "reflectlite.Value.Type" 0) (fun t _ _ _ => ReflectliteType.toType t)) func83 (by kernel_rfl) (by kernel_rfl) (by kernel_rfl) (by kernel_rfl)
 have h8 := @run_callFunc_extern prog 84 _ (ReflectliteValue.method (ReflectliteValue.valueError "reflectlite.Value.IsNil" 0) ReflectliteValue.isNil) func84 (by kernel_rfl) (by kernel_rfl) (by kernel_rfl) (by kernel_rfl)
 have h27 := @run_callFunc_extern prog 179 _ (ReflectliteType.abiMethod fun t => do pure (.int .u8 (← Rtype.kind t))) func179 (by kernel_rfl) (by kernel_rfl) (by kernel_rfl) (by kernel_rfl)
 have h37 := @run_callFunc_extern prog 192 _ (ReflectliteType.method ReflectliteType.elem) func192 (by kernel_rfl) (by kernel_rfl) (by kernel_rfl) (by kernel_rfl)
 have h38 := @run_callFunc_extern prog 193 _ (ReflectliteType.relation "Implements" ReflectliteType.implements_) func193 (by kernel_rfl) (by kernel_rfl) (by kernel_rfl) (by kernel_rfl)
 have f6 := valueOf141
 have f7 := type141
 have mK := mKind
 have mE := mElem
 have mI := mImplements
 have k27 := kind141
 have k25 := kind140
 have e27 := elem141
 have i25 := implements140
 have n8 := isNil141 ⟨w.heap.size, 0, none⟩ t ((w.alloc (.cells #[.pointer (some t)] 141)).alloc (.cells #[.pointer (some ⟨2, 141, none⟩), .pointer (some ⟨w.heap.size, 0, none⟩), .int .u64 150] 129)) (by simp)
 have hg2 : ((w.alloc (.cells #[.pointer (some t)] 141)).alloc (.cells #[.pointer (some ⟨2, 141, none⟩), .pointer (some ⟨w.heap.size, 0, none⟩), .int .u64 150] 129)).cell? ⟨0, 0, none⟩ = some (.iface 171 (.agg #[.pointer (some ⟨2, 30, none⟩)])) := by
  rw [World.cell?_alloc_lt _ _ ⟨0, 0, none⟩ (by simp), World.cell?_alloc_lt _ _ ⟨0, 0, none⟩ h0l]; exact hg
 have hx : Go.Ai.Ext w ((w.alloc (.cells #[.pointer (some t)] 141)).alloc (.cells #[.pointer (some ⟨2, 141, none⟩), .pointer (some ⟨w.heap.size, 0, none⟩), .int .u64 150] 129)) := (Go.Ai.Ext.alloc w _).trans (Go.Ai.Ext.alloc _ _)
 have hloop := as_loop140 e n r ⟨w.heap.size, 0, none⟩ t old ((w.alloc (.cells #[.pointer (some t)] 141)).alloc (.cells #[.pointer (some ⟨2, 141, none⟩), .pointer (some ⟨w.heap.size, 0, none⟩), .int .u64 150] 129)) (.iface 141 (.pointer (some t)))
  (hch.mono hx) (by simp) ((World.cell?_of_block (hx.block _ htl)).trans ht0) ((World.frozen?_of_block (hx.block _ htl)).trans hf0)
 obtain ⟨ty, v, rfl⟩ := hch.iface
 have enA : ∀ args w, (callFunc 85 args).run prog w = .ok (.enter 85 args) w := Go.Ai.enters_of func85 rfl (by kernel_rfl)
 go_enter func52, ntmps52
 go_wp2_with (go_at_call 85; refine hloop.mono ?_; rintro en w' ho)
 cases ho with
 | no hx' =>
  go_wp2
  go_ret
  exact .no (hx.trans hx')
 | yes hx' he =>
  subst he
  go_wp2
  go_ret
  exact .yes (hx.trans hx') rfl
theorem to45 {w : World} {e : Value} {r : Option Value} (h : Go.Ai.Ch 45 140 190 45 w e r) : (e = .nilIface ∧ r = none) ∨ ∃ n, Ch45 w n e r := by
 induction h with
 | nil => exact .inl ⟨rfl, rfl⟩
 | hitC _ => exact .inr ⟨0, .hit⟩
 | hitW h => exact absurd rfl h
 | miss h => exact absurd rfl h
 | step hor _ _ hc _ ih =>
  rcases hor with rfl | rfl
  ·rcases ih with ⟨rfl, rfl⟩ | ⟨n, hn⟩
   ·exact .inr ⟨0, .whereNil hc⟩
   ·exact .inr ⟨n + 1, .where_ hc hn⟩
  ·rcases ih with ⟨rfl, rfl⟩ | ⟨n, hn⟩
   ·exact .inr ⟨0, .fieldNil hc⟩
   ·exact .inr ⟨n + 1, .field hc hn⟩
theorem to140 {w : World} {e : Value} {r : Option Value} (h : Go.Ai.Ch 45 140 190 140 w e r) : (e = .nilIface ∧ r = none) ∨ ∃ n, Ch140 w n e r := by
 induction h with
 | nil => exact .inl ⟨rfl, rfl⟩
 | hitC h => cases h
 | hitW _ => exact .inr ⟨0, .hit⟩
 | miss _ => exact .inr ⟨0, .code⟩
 | step hor hne _ hc _ ih =>
  rcases hor with rfl | rfl
  ·exact absurd rfl hne
  ·rcases ih with ⟨rfl, rfl⟩ | ⟨n, hn⟩
   ·exact .inr ⟨0, .fieldNil hc⟩
   ·exact .inr ⟨n + 1, .field hc hn⟩
theorem Out.as {w w' : World} {t : Addr} {r : Option Value} {e : Ending} (h : Out w t r e w') : Go.Ai.AsOut w t r e w' := by
 cases h with
 | no h => exact .no h
 | yes h1 h2 => exact .yes h1 h2
theorem as_ok (q : Nat × Nat) (hq : q ∈ [(94, 45), (141, 140)]) (e : Value) (r : Option Value) (t : Addr) (old : Value) (w : World) (hch : Go.Ai.Ch 45 140 190 q.2 w e r)
  (hg : w.cell? ⟨0, 0, none⟩ = some (.iface 171 (.agg #[.pointer (some ⟨2, 30, none⟩)]))) (ht0 : w.cell? t = some old) (hf0 : w.frozen? t = false) :
  Calls prog 52 #[e, .iface q.1 (.pointer (some t))] w fun ev w' => Go.Ai.AsOut w t r ev w' := by
 simp only [List.mem_cons, List.not_mem_nil, or_false] at hq
 have hnil : Calls prog 52 #[.nilIface, .iface q.1 (.pointer (some t))] w fun ev w' => Go.Ai.AsOut w t none ev w' :=
  (as_nil _ w).mono fun ev w' h => by obtain ⟨rfl, rfl⟩ := h; exact .no (Go.Ai.Ext.refl _)
 rcases hq with rfl | rfl
 ·rcases to45 hch with ⟨rfl, rfl⟩ | ⟨n, hn⟩
  ·exact hnil
  ·exact (as_45 e n r t old w hn hg ht0 hf0).mono fun _ _ h => h.as
 ·rcases to140 hch with ⟨rfl, rfl⟩ | ⟨n, hn⟩
  ·exact hnil
  ·exact (as_140 e n r t old w hn hg ht0 hf0).mono fun _ _ h => h.as
end Go.Proofs.Tryz.AsX

namespace Go.Ai.T
set_option maxRecDepth 100000
open Go Go.Proofs
theorem en {f : Nat} {fn : Func} {code : Code} (hf : Tryz.prog.funcs[f]? = some fn) (hb : fn.body = some code) (hn : (fn.name == "runtime.NumGoroutine") = false) : Enters E.P f := enters_of hf hb hn
theorem envS_ok {W : World} (hg : W.cell? ⟨0, 0, none⟩ = some (.iface 171 (.agg #[.pointer (some ⟨2, 30, none⟩)]))) : EnvOK E W.heap.size W := by
 have h0 : 0 < W.heap.size := by
  rcases Nat.eq_zero_or_pos W.heap.size with h0 | h
  ·simp [World.cell?, h0] at hg
  ·exact h
 refine env_ok envB_ok ?_ ?_
 ·intro f g hfg
  simp only [E, prim] at hfg
  split at hfg <;> first | (cases hfg; first | exact errorsAs_dom _ _ _ _ | exact builderString_dom _ | exact builderCheck_dom _ | exact stringsJoin_dom) | cases hfg
 ·intro f g hfg
  simp only [E, prim] at hfg
  split at hfg
  ·cases hfg
   exact errorsAs_ok (en Tryz.func52 rfl (by kernel_rfl)) h0 hg Tryz.AsX.as_ok
  ·cases hfg
   exact builderString_ok (en Tryz.func68 rfl (by kernel_rfl)) Tryz.string_nil Tryz.string_zero Tryz.string_room Tryz.string_some
  ·cases hfg
   refine builderCheck_ok (en Tryz.func97 rfl (by kernel_rfl)) Tryz.check_used ?_
   intro b w t ht h1 h2 h3
   simp only [List.contains_eq_mem, List.mem_cons, List.not_mem_nil, or_false, decide_eq_true_eq] at ht
   rcases ht with rfl | rfl
   ·exact Tryz.check_fresh b w _ h1 h2 Tryz.lies_B h3
   ·exact Tryz.check_fresh b w _ h1 h2 Tryz.lies_W h3
  ·cases hfg
   exact stringsJoin_ok (en Tryz.func129 rfl (by kernel_rfl)) Tryz.strings_Join_none Tryz.strings_Join
  ·cases hfg
end Go.Ai.T

