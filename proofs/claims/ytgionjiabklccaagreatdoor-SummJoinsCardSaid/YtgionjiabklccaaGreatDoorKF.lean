/- Part KF of the proof that a law of this program answers yes at every input: no conditions beyond the given statement. -/
import Derived.Test.YtgionjiabklccaaGreatDoorProg
import Derived.WalkKit
import Derived.LaidEql
import Derived.Stop.Asserts
import Derived.RowKitTokens
import Derived.Deep.LoopGhost
import Derived.Test.YtgionjiabklccaaGreatDoorKD
import Derived.Test.YtgionjiabklccaaGreatDoorKE
import Derived.Test.YtgionjiabklccaaGreatDoorKC
set_option linter.unusedSimpArgs false
set_option linter.unusedVariables false
set_option linter.all false
namespace Go.Proofs.Tryz.AsX
open Go.RowKit Go.Extern.Stop Go.Stop Go.Extern
set_option maxHeartbeats 4000000
set_option maxRecDepth 100000
theorem as_nil (t : Value) (w : World) : Calls prog 41 #[.nilIface, t] w fun e w' => e = .returned (.bool false) ∧ w' = w := by
 go_enter func41, ntmps41
 go_wp2
 go_ret
 exact ⟨rfl, rfl⟩
theorem rlm (z : Sem Value) (f : TypeId → Addr → Nat → Nat → Sem Value) (v : Value) :
  ReflectliteValue.method z f #[v] = (do match ← ReflectliteValue.parts v with | none => z | some (t, a, fl) => f t a fl (fl % 32)) := rfl
theorem rls (v x : Value) : ReflectliteValue.set #[v, x] = (do
  let (some (dst, a, fl), some (src, b, _)) := (← ReflectliteValue.parts v, ← ReflectliteValue.parts x)
   | unsupported (.noEntry "extern/(internal/reflectlite.Value).Set.zeroValue")
  if fl / ReflectliteValue.flagAddr % 2 == 0 then unsupported (.noEntry "extern/(internal/reflectlite.Value).Set.unaddressable")
  let val ← loadVar src b
  if ← Rtype.directlyAssignable dst src then storeVar dst a val
  else if ← Rtype.implements dst src then
   if (← Rtype.kind src) == 20 then
    match val with
    | .nilIface => unsupported (.noEntry "extern/reflectlite: a nil value of one interface type handed on as a value of another")
    | _ => storeVar dst a val
   else storeVar dst a (.iface src val)
  else panicString ("reflectlite.Set: value of type " ++ (← Rtype.spelt src) ++ " is not assignable to type " ++ (← Rtype.spelt dst))
  pure (.tuple #[])) := rfl
inductive Out (w : World) (t : Addr) : Option Value → Ending → World → Prop
 | no {w' : World} : Go.Ai.Ext w w' → Out w t none (.returned (.bool false)) w'
 | yes {w1 w' : World} {v : Value} : Go.Ai.Ext w w1 → w' = w1.setCell t v → Out w t (some v) (.returned (.bool true)) w'
theorem unwrapW (b o : Nat) (e : Value) (w : World) (h : w.cell? ⟨b, o + 1, none⟩ = some e) : Calls prog 197 #[.pointer (some ⟨b, o, none⟩)] w fun en w' => en = .returned e ∧ w' = w := by
 go_enter func197, ntmps197
 go_wp2
 go_ret
 exact ⟨rfl, rfl⟩
theorem unwrapF (b o : Nat) (e : Value) (w : World) (h : w.cell? ⟨b, o + 1, none⟩ = some e) : Calls prog 213 #[.pointer (some ⟨b, o, none⟩)] w fun en w' => en = .returned e ∧ w' = w := by
 go_enter func213, ntmps213
 go_wp2
 go_ret
 exact ⟨rfl, rfl⟩
theorem mKind (h : Value) (w : World) : (Go.method 362 183 (.agg #[h]) "Kind").run prog w = .ok (191, h) w := by kernel_rfl
theorem mElem (h : Value) (w : World) : (Go.method 362 183 (.agg #[h]) "Elem").run prog w = .ok (204, .agg #[h]) w := by kernel_rfl
theorem mImplements (h : Value) (w : World) : (Go.method 362 183 (.agg #[h]) "Implements").run prog w = .ok (205, .agg #[h]) w := by kernel_rfl
theorem mAssignableTo (h : Value) (w : World) : (Go.method 362 183 (.agg #[h]) "AssignableTo").run prog w = .ok (202, .agg #[h]) w := by kernel_rfl
theorem mUnwrapW (a : Addr) (w : World) : (Go.method 362 129 (.pointer (some a)) "Unwrap").run prog w = .ok (197, .pointer (some a)) w := by kernel_rfl
theorem mUnwrapF (a : Addr) (w : World) : (Go.method 362 199 (.pointer (some a)) "Unwrap").run prog w = .ok (213, .pointer (some a)) w := by kernel_rfl
theorem typeOf40 (v : Value) (w : World) : (ReflectliteType.typeOf #[.iface 40 v]).run prog w = .ok (.iface 183 (.agg #[.pointer (some ⟨2, 40, none⟩)])) w := by kernel_rfl
theorem noAs40 (v : Value) (xT : TypeId) (w : World) : (Instr.typeAssert (.iface 40 v) xT 188 true).run prog w = .ok (.tuple #[.nilIface, .bool false]) w :=
 run_typeAssert_lacksB underlying188 (by kernel_rfl) (by kernel_rfl) v xT w
theorem noUnw40 (v : Value) (xT : TypeId) (w : World) : (Instr.typeAssert (.iface 40 v) xT 191 true).run prog w = .ok (.tuple #[.nilIface, .bool false]) w :=
 run_typeAssert_lacksB underlying191 (by kernel_rfl) (by kernel_rfl) v xT w
theorem noUnws40 (v : Value) (xT : TypeId) (w : World) : (Instr.typeAssert (.iface 40 v) xT 193 true).run prog w = .ok (.tuple #[.nilIface, .bool false]) w :=
 run_typeAssert_lacksB underlying193 (by kernel_rfl) (by kernel_rfl) v xT w
theorem typeOf129 (v : Value) (w : World) : (ReflectliteType.typeOf #[.iface 129 v]).run prog w = .ok (.iface 183 (.agg #[.pointer (some ⟨2, 129, none⟩)])) w := by kernel_rfl
theorem noAs129 (v : Value) (xT : TypeId) (w : World) : (Instr.typeAssert (.iface 129 v) xT 188 true).run prog w = .ok (.tuple #[.nilIface, .bool false]) w :=
 run_typeAssert_lacksB underlying188 (by kernel_rfl) (by kernel_rfl) v xT w
theorem isUnw129 (v : Value) (xT : TypeId) (w : World) : (Instr.typeAssert (.iface 129 v) xT 191 true).run prog w = .ok (.tuple #[.iface 129 v, .bool true]) w :=
 run_typeAssert_hasB underlying191 (by kernel_rfl) v xT w
theorem typeOf199 (v : Value) (w : World) : (ReflectliteType.typeOf #[.iface 199 v]).run prog w = .ok (.iface 183 (.agg #[.pointer (some ⟨2, 199, none⟩)])) w := by kernel_rfl
theorem noAs199 (v : Value) (xT : TypeId) (w : World) : (Instr.typeAssert (.iface 199 v) xT 188 true).run prog w = .ok (.tuple #[.nilIface, .bool false]) w :=
 run_typeAssert_lacksB underlying188 (by kernel_rfl) (by kernel_rfl) v xT w
theorem isUnw199 (v : Value) (xT : TypeId) (w : World) : (Instr.typeAssert (.iface 199 v) xT 191 true).run prog w = .ok (.tuple #[.iface 199 v, .bool true]) w :=
 run_typeAssert_hasB underlying191 (by kernel_rfl) v xT w
theorem ass40_40 (w : World) : (ReflectliteType.relation "AssignableTo" ReflectliteType.assignableTo #[.agg #[.pointer (some ⟨2, 40, none⟩)], .iface 183 (.agg #[.pointer (some ⟨2, 40, none⟩)])]).run prog w = .ok (.bool true) w := by kernel_rfl
theorem ass129_40 (w : World) : (ReflectliteType.relation "AssignableTo" ReflectliteType.assignableTo #[.agg #[.pointer (some ⟨2, 129, none⟩)], .iface 183 (.agg #[.pointer (some ⟨2, 40, none⟩)])]).run prog w = .ok (.bool false) w := by kernel_rfl
theorem ass199_40 (w : World) : (ReflectliteType.relation "AssignableTo" ReflectliteType.assignableTo #[.agg #[.pointer (some ⟨2, 199, none⟩)], .iface 183 (.agg #[.pointer (some ⟨2, 40, none⟩)])]).run prog w = .ok (.bool false) w := by kernel_rfl
theorem valueOf87 (t : Addr) (w : World) : (ReflectliteValue.unpack (.iface 87 (.pointer (some t)))).run prog w
  = .ok (.agg #[.pointer (some ⟨2, 87, none⟩), .pointer (some ⟨w.heap.size, 0, none⟩), .int .u64 150]) (w.alloc (.cells #[.pointer (some t)] 87)) := by kernel_rfl
theorem type87 (a : Addr) (w : World) : (ReflectliteValue.methodAny (ReflectliteValue.valueError "reflectlite.Value.Type" 0) (fun t _ _ _ => ReflectliteType.toType t) #[.agg #[.pointer (some ⟨2, 87, none⟩), .pointer (some a), .int .u64 150]]).run prog w
  = .ok (.iface 183 (.agg #[.pointer (some ⟨2, 87, none⟩)])) w := by kernel_rfl
theorem kind87 (w : World) : ((ReflectliteType.abiMethod fun t => (fun a : Nat => Value.int IntKind.u8 (a : Int)) <$> Rtype.kind t) #[.pointer (some ⟨2, 87, none⟩)]).run prog w = .ok (.int .u8 22) w := by kernel_rfl
theorem kind40 (w : World) : ((ReflectliteType.abiMethod fun t => (fun a : Nat => Value.int IntKind.u8 (a : Int)) <$> Rtype.kind t) #[.pointer (some ⟨2, 40, none⟩)]).run prog w = .ok (.int .u8 2) w := by kernel_rfl
theorem parts87 (a : Addr) (w : World) : (ReflectliteValue.parts (.agg #[.pointer (some ⟨2, 87, none⟩), .pointer (some a), .int .u64 150])).run prog w = .ok (some (87, a, 150)) w := by kernel_rfl
theorem isNil87 (a p : Addr) (W : World) (ha : W.cell? a = some (.pointer (some p))) :
  (ReflectliteValue.method (ReflectliteValue.valueError "reflectlite.Value.IsNil" 0) ReflectliteValue.isNil #[.agg #[.pointer (some ⟨2, 87, none⟩), .pointer (some a), .int .u64 150]]).run prog W = .ok (.bool false) W := by
 rw [rlm]
 simp only [Sem.run_bind, parts87, Result.andThen]
 simp [ReflectliteValue.isNil, loadVar, isAgg, underlying, underlying87, ha, Result.andThen]
theorem elem87 (w : World) : (ReflectliteType.method ReflectliteType.elem #[.agg #[.pointer (some ⟨2, 87, none⟩)]]).run prog w = .ok (.iface 183 (.agg #[.pointer (some ⟨2, 40, none⟩)])) w := by kernel_rfl
theorem implements40 (w : World) : (ReflectliteType.relation "Implements" ReflectliteType.implements_ #[.agg #[.pointer (some ⟨2, 40, none⟩)], .iface 183 (.agg #[.pointer (some ⟨2, 30, none⟩)])]).run prog w = .ok (.bool true) w := by kernel_rfl
theorem valueOfE40 (n : Int) (w : World) : (ReflectliteValue.unpack (.iface 40 (.int .i64 n))).run prog w
  = .ok (.agg #[.pointer (some ⟨2, 40, none⟩), .pointer (some ⟨w.heap.size, 0, none⟩), .int .u64 130]) (w.alloc (.cells #[(.int .i64 n)] 40)) := by kernel_rfl
theorem elemOf87 (w : World) : (Rtype.elem? 87).run prog w = .ok (some 40) w := by kernel_rfl
theorem mk40 (p : Addr) (w : World) : (ReflectliteValue.mk 40 p ReflectliteValue.flagAddr).run prog w = .ok (.agg #[.pointer (some ⟨2, 40, none⟩), .pointer (some p), .int .u64 386]) w := by kernel_rfl
theorem elemV87 (a p : Addr) (W : World) (ha : W.cell? a = some (.pointer (some p))) :
  (ReflectliteValue.method (ReflectliteValue.valueError "reflectlite.Value.Elem" 0) ReflectliteValue.elem #[.agg #[.pointer (some ⟨2, 87, none⟩), .pointer (some a), .int .u64 150]]).run prog W
   = .ok (.agg #[.pointer (some ⟨2, 40, none⟩), .pointer (some p), .int .u64 386]) W := by
 rw [rlm]
 simp only [Sem.run_bind, parts87, Result.andThen]
 simp [ReflectliteValue.elem, loadVar, isAgg, underlying, underlying87, ha, Result.andThen, elemOf87, mk40]
theorem partsA40 (a : Addr) (w : World) : (ReflectliteValue.parts (.agg #[.pointer (some ⟨2, 40, none⟩), .pointer (some a), .int .u64 386])).run prog w = .ok (some (40, a, 386)) w := by kernel_rfl
theorem partsV40 (a : Addr) (w : World) : (ReflectliteValue.parts (.agg #[.pointer (some ⟨2, 40, none⟩), .pointer (some a), .int .u64 130])).run prog w = .ok (some (40, a, 130)) w := by kernel_rfl
theorem direct40 (w : World) : (Rtype.directlyAssignable 40 40).run prog w = .ok true w := by kernel_rfl
theorem set40 (ta b : Addr) (n : Int) (old : Value) (W : World) (hb : W.cell? b = some (.int .i64 n)) (ht : W.cell? ta = some old) (hf : W.frozen? ta = false) :
  (ReflectliteValue.set #[.agg #[.pointer (some ⟨2, 40, none⟩), .pointer (some ta), .int .u64 386], .agg #[.pointer (some ⟨2, 40, none⟩), .pointer (some b), .int .u64 130]]).run prog W
   = .ok (.tuple #[]) (W.setCell ta (.int .i64 n)) := by
 rw [rls]
 simp only [Sem.run_bind, partsA40, partsV40, Result.andThen]
 simp [ReflectliteValue.flagAddr, loadVar, isAgg, underlying, underlying40, hb, Result.andThen, direct40, storeVar, Value.cells, storeCells, Addr.add]
 rw [run_store prog W ta _ _ (by rfl)]
 simp [ht, hf]
inductive Ch40 (w : World) : Nat → Value → Option Value → Prop
 | hit {n : Int} : Ch40 w 0 (.iface 40 (.int .i64 n)) (some (.int .i64 n))
 | where_ {b o : Nat} {e : Value} {r : Option Value} {n : Nat} : w.cell? ⟨b, o + 1, none⟩ = some e → Ch40 w n e r → Ch40 w (n + 1) (.iface 129 (.pointer (some ⟨b, o, none⟩))) r
 | field {b o : Nat} {e : Value} {r : Option Value} {n : Nat} : w.cell? ⟨b, o + 1, none⟩ = some e → Ch40 w n e r → Ch40 w (n + 1) (.iface 199 (.pointer (some ⟨b, o, none⟩))) r
 | fieldNil {b o : Nat} : w.cell? ⟨b, o + 1, none⟩ = some .nilIface → Ch40 w 0 (.iface 199 (.pointer (some ⟨b, o, none⟩))) none
 | whereNil {b o : Nat} : w.cell? ⟨b, o + 1, none⟩ = some .nilIface → Ch40 w 0 (.iface 129 (.pointer (some ⟨b, o, none⟩))) none
theorem Ch40.iface {w : World} {n : Nat} {e : Value} {r : Option Value} (h : Ch40 w n e r) : ∃ ty v, e = .iface ty v := by cases h <;> exact ⟨_, _, rfl⟩
theorem as_loop40 (e : Value) (n : Nat) (r : Option Value) (a t : Addr) (old : Value) (w : World) (tg : Value) (hch : Ch40 w n e r) (ha : w.cell? a = some (.pointer (some t))) (ht0 : w.cell? t = some old) (hf0 : w.frozen? t = false) :
  Calls prog 87 #[e, tg, .agg #[.pointer (some ⟨2, 87, none⟩), .pointer (some a), .int .u64 150], .iface 183 (.agg #[.pointer (some ⟨2, 40, none⟩)])] w fun ev w' =>
  Out w t r ev w' := by
 have hal : a.block < w.heap.size := by
  rcases Nat.lt_or_ge a.block w.heap.size with h | h
  ·exact h
  ·simp [World.cell?, Array.getElem?_eq_none h] at ha
 have htl : t.block < w.heap.size := by
  rcases Nat.lt_or_ge t.block w.heap.size with h | h
  ·exact h
  ·simp [World.cell?, Array.getElem?_eq_none h] at ht0
 have hR : ∀ wr : World, Go.Ai.Ext (w.alloc (.cells #[.pointer (some ⟨2, 87, none⟩), .pointer (some a), .int .u64 150] 137)) wr → Go.Ai.Ext w wr ∧ wr.cell? a = some (.pointer (some t)) ∧ wr.cell? t = some old ∧ wr.frozen? t = false ∧ t.block < wr.heap.size ∧
   wr.cell? ⟨w.heap.size, 0, none⟩ = some (.pointer (some ⟨2, 87, none⟩)) ∧ wr.cell? ⟨w.heap.size, 1, none⟩ = some (.pointer (some a)) ∧ wr.cell? ⟨w.heap.size, 2, none⟩ = some (.int .u64 150) := by
  intro wr h
  have h0 : Go.Ai.Ext w wr := (Go.Ai.Ext.alloc w _).trans h
  have hb : w.heap.size < (w.alloc (.cells #[.pointer (some ⟨2, 87, none⟩), .pointer (some a), .int .u64 150] 137)).heap.size := by simp
  refine ⟨h0, (World.cell?_of_block (h0.block _ hal)).trans ha, (World.cell?_of_block (h0.block _ htl)).trans ht0, (World.frozen?_of_block (h0.block _ htl)).trans hf0, Nat.lt_of_lt_of_le htl h0.size, ?_, ?_, ?_⟩
  ·rw [h.cell hb]; simp
  ·rw [h.cell hb]; simp
  ·rw [h.cell hb]; simp
 have hTypeOf := @run_callFunc_extern prog 121 _ ReflectliteType.typeOf func121 (by kernel_rfl) (by kernel_rfl) (by kernel_rfl) (by kernel_rfl)
 have hAT := @run_callFunc_extern prog 202 _ (ReflectliteType.relation "AssignableTo" ReflectliteType.assignableTo) func202 (by kernel_rfl) (by kernel_rfl) (by kernel_rfl) (by kernel_rfl)
 have hElem := @run_callFunc_extern prog 122 _ (ReflectliteValue.method (ReflectliteValue.valueError "reflectlite.Value.Elem" 0) ReflectliteValue.elem) func122 (by kernel_rfl) (by kernel_rfl) (by kernel_rfl) (by kernel_rfl)
 have hVO := @run_callFunc_extern prog 84 _ (fun args => ReflectliteValue.unpack (args.getD 0 (.tuple #[]))) func84 (by kernel_rfl) (by kernel_rfl) (by kernel_rfl) (by kernel_rfl)
 have hSet := @run_callFunc_extern prog 123 _ ReflectliteValue.set func123 (by kernel_rfl) (by kernel_rfl) (by kernel_rfl) (by kernel_rfl)
 have mA := mAssignableTo
 have tO1 := typeOf40
 have tO2 := typeOf129
 have tO3 := typeOf199
 have as1 := ass40_40
 have as2 := ass129_40
 have as3 := ass199_40
 have nA1 := noAs40
 have nA2 := noAs129
 have nA3 := noAs199
 have u1 := noUnw40
 have u2 := isUnw129
 have u3 := isUnw199
 have us1 := noUnws40
 have mUW := mUnwrapW
 have mUF := mUnwrapF
 have vE := valueOfE40
 have enW : ∀ args w, (callFunc 197 args).run prog w = .ok (.enter 197 args) w := Go.Ai.enters_of func197 rfl (by kernel_rfl)
 have enF : ∀ args w, (callFunc 213 args).run prog w = .ok (.enter 213 args) w := Go.Ai.enters_of func213 rfl (by kernel_rfl)
 go_enter func87, ntmps87
 go_wp2
 go_loopg [0] n (fun k x wr => Ch40 w k x r ∧ Go.Ai.Ext (w.alloc (.cells #[.pointer (some ⟨2, 87, none⟩), .pointer (some a), .int .u64 150] 137)) wr)
 case atStart => exact ⟨hch, Go.Ai.Ext.refl _⟩
 case round =>
  obtain ⟨hc, hx⟩ := hrel
  obtain ⟨hx0, ca, ct, cf, hlt, c0, c1, c2⟩ := hR wr hx
  cases hc with
  | @hit x =>
   have el := elemV87 a t wr ca
   have st := set40 t ⟨wr.heap.size, 0, none⟩ x old (wr.alloc (.cells #[(.int .i64 x)] 40)) (by simp) (by rw [World.cell?_alloc_lt _ _ t hlt]; exact ct) (by rw [World.frozen?_alloc_old _ _ t (Nat.ne_of_lt hlt)]; exact cf)
   go_wp2
   go_ret
   exact .yes (hx0.trans (Go.Ai.Ext.alloc _ _)) rfl
  | @where_ b o e' _ n' he hc' =>
   have hb : b < w.heap.size := by
    rcases Nat.lt_or_ge b w.heap.size with h | h
    ·exact h
    ·simp [World.cell?, Array.getElem?_eq_none h] at he
   have he' : wr.cell? ⟨b, o + 1, none⟩ = some e' := (hx0.cell hb).trans he
   obtain ⟨ty, v, rfl⟩ := hc'.iface
   go_wp2_with (go_at_call 197; refine (unwrapW b o _ _ he').mono ?_; rintro en w' ⟨rfl, rfl⟩)
   go_roundg n'
   case measure => omega
   case rel => exact ⟨hc', hx⟩
  | @whereNil b o he =>
   have hb : b < w.heap.size := by
    rcases Nat.lt_or_ge b w.heap.size with h | h
    ·exact h
    ·simp [World.cell?, Array.getElem?_eq_none h] at he
   have he' : wr.cell? ⟨b, o + 1, none⟩ = some .nilIface := (hx0.cell hb).trans he
   go_wp2_with (go_at_call 197; refine (unwrapW b o _ _ he').mono ?_; rintro en w' ⟨rfl, rfl⟩)
   go_ret
   exact .no hx0
  | @field b o e' _ n' he hc' =>
   have hb : b < w.heap.size := by
    rcases Nat.lt_or_ge b w.heap.size with h | h
    ·exact h
    ·simp [World.cell?, Array.getElem?_eq_none h] at he
   have he' : wr.cell? ⟨b, o + 1, none⟩ = some e' := (hx0.cell hb).trans he
   obtain ⟨ty, v, rfl⟩ := hc'.iface
   go_wp2_with (go_at_call 213; refine (unwrapF b o _ _ he').mono ?_; rintro en w' ⟨rfl, rfl⟩)
   go_roundg n'
   case measure => omega
   case rel => exact ⟨hc', hx⟩
  | @fieldNil b o he =>
   have hb : b < w.heap.size := by
    rcases Nat.lt_or_ge b w.heap.size with h | h
    ·exact h
    ·simp [World.cell?, Array.getElem?_eq_none h] at he
   have he' : wr.cell? ⟨b, o + 1, none⟩ = some .nilIface := (hx0.cell hb).trans he
   go_wp2_with (go_at_call 213; refine (unwrapF b o _ _ he').mono ?_; rintro en w' ⟨rfl, rfl⟩)
   go_ret
   exact .no hx0
theorem Ch40.mono {w w' : World} (hx : Go.Ai.Ext w w') {n : Nat} {e : Value} {r : Option Value} (h : Ch40 w n e r) : Ch40 w' n e r := by
 have key : ∀ {b o : Nat} {e : Value}, w.cell? ⟨b, o, none⟩ = some e → w'.cell? ⟨b, o, none⟩ = some e := by
  intro b o e he
  have hb : b < w.heap.size := by
   rcases Nat.lt_or_ge b w.heap.size with h | h
   ·exact h
   ·simp [World.cell?, Array.getElem?_eq_none h] at he
  exact (hx.cell hb).trans he
 induction h with
 | hit => exact .hit
 | where_ h _ ih => exact .where_ (key h) ih
 | whereNil h => exact .whereNil (key h)
 | field h _ ih => exact .field (key h) ih
 | fieldNil h => exact .fieldNil (key h)
theorem as_40 (e : Value) (n : Nat) (r : Option Value) (t : Addr) (old : Value) (w : World) (hch : Ch40 w n e r) (hg : w.cell? ⟨0, 0, none⟩ = some (.iface 183 (.agg #[.pointer (some ⟨2, 30, none⟩)]))) (ht0 : w.cell? t = some old) (hf0 : w.frozen? t = false) :
  Calls prog 41 #[e, .iface 87 (.pointer (some t))] w fun ev w' => Out w t r ev w' := by
 have htl : t.block < w.heap.size := by
  rcases Nat.lt_or_ge t.block w.heap.size with h | h
  ·exact h
  ·simp [World.cell?, Array.getElem?_eq_none h] at ht0
 have h0l : 0 < w.heap.size := by
  rcases Nat.eq_zero_or_pos w.heap.size with h0 | h
  ·simp [World.cell?, h0] at hg
  ·exact h
 have h6 := @run_callFunc_extern prog 84 _ (fun args => ReflectliteValue.unpack (args.getD 0 (.tuple #[]))) func84 (by kernel_rfl) (by kernel_rfl) (by kernel_rfl) (by kernel_rfl)
 have h7 := @run_callFunc_extern prog 85 _ (ReflectliteValue.methodAny (ReflectliteValue.valueError "reflectlite.Value.Type" 0) (fun t _ _ _ => ReflectliteType.toType t)) func85 (by kernel_rfl) (by kernel_rfl) (by kernel_rfl) (by kernel_rfl)
 have h8 := @run_callFunc_extern prog 86 _ (ReflectliteValue.method (ReflectliteValue.valueError "reflectlite.Value.IsNil" 0) ReflectliteValue.isNil) func86 (by kernel_rfl) (by kernel_rfl) (by kernel_rfl) (by kernel_rfl)
 have h27 := @run_callFunc_extern prog 191 _ (ReflectliteType.abiMethod fun t => do pure (.int .u8 (← Rtype.kind t))) func191 (by kernel_rfl) (by kernel_rfl) (by kernel_rfl) (by kernel_rfl)
 have h37 := @run_callFunc_extern prog 204 _ (ReflectliteType.method ReflectliteType.elem) func204 (by kernel_rfl) (by kernel_rfl) (by kernel_rfl) (by kernel_rfl)
 have h38 := @run_callFunc_extern prog 205 _ (ReflectliteType.relation "Implements" ReflectliteType.implements_) func205 (by kernel_rfl) (by kernel_rfl) (by kernel_rfl) (by kernel_rfl)
 have f6 := valueOf87
 have f7 := type87
 have mK := mKind
 have mE := mElem
 have mI := mImplements
 have k27 := kind87
 have k25 := kind40
 have e27 := elem87
 have i25 := implements40
 have n8 := isNil87 ⟨w.heap.size, 0, none⟩ t ((w.alloc (.cells #[.pointer (some t)] 87)).alloc (.cells #[.pointer (some ⟨2, 87, none⟩), .pointer (some ⟨w.heap.size, 0, none⟩), .int .u64 150] 137)) (by simp)
 have hg2 : ((w.alloc (.cells #[.pointer (some t)] 87)).alloc (.cells #[.pointer (some ⟨2, 87, none⟩), .pointer (some ⟨w.heap.size, 0, none⟩), .int .u64 150] 137)).cell? ⟨0, 0, none⟩ = some (.iface 183 (.agg #[.pointer (some ⟨2, 30, none⟩)])) := by
  rw [World.cell?_alloc_lt _ _ ⟨0, 0, none⟩ (by simp), World.cell?_alloc_lt _ _ ⟨0, 0, none⟩ h0l]; exact hg
 have hx : Go.Ai.Ext w ((w.alloc (.cells #[.pointer (some t)] 87)).alloc (.cells #[.pointer (some ⟨2, 87, none⟩), .pointer (some ⟨w.heap.size, 0, none⟩), .int .u64 150] 137)) := (Go.Ai.Ext.alloc w _).trans (Go.Ai.Ext.alloc _ _)
 have hloop := as_loop40 e n r ⟨w.heap.size, 0, none⟩ t old ((w.alloc (.cells #[.pointer (some t)] 87)).alloc (.cells #[.pointer (some ⟨2, 87, none⟩), .pointer (some ⟨w.heap.size, 0, none⟩), .int .u64 150] 137)) (.iface 87 (.pointer (some t)))
  (hch.mono hx) (by simp) ((World.cell?_of_block (hx.block _ htl)).trans ht0) ((World.frozen?_of_block (hx.block _ htl)).trans hf0)
 obtain ⟨ty, v, rfl⟩ := hch.iface
 have enA : ∀ args w, (callFunc 87 args).run prog w = .ok (.enter 87 args) w := Go.Ai.enters_of func87 rfl (by kernel_rfl)
 go_enter func41, ntmps41
 go_wp2_with (go_at_call 87; refine hloop.mono ?_; rintro en w' ho)
 cases ho with
 | no hx' =>
  go_wp2
  go_ret
  exact .no (hx.trans hx')
 | yes hx' he =>
  subst he
  go_wp2
  go_ret
  exact .yes (hx.trans hx') rfl
theorem ass40_129 (w : World) : (ReflectliteType.relation "AssignableTo" ReflectliteType.assignableTo #[.agg #[.pointer (some ⟨2, 40, none⟩)], .iface 183 (.agg #[.pointer (some ⟨2, 129, none⟩)])]).run prog w = .ok (.bool false) w := by kernel_rfl
theorem ass129_129 (w : World) : (ReflectliteType.relation "AssignableTo" ReflectliteType.assignableTo #[.agg #[.pointer (some ⟨2, 129, none⟩)], .iface 183 (.agg #[.pointer (some ⟨2, 129, none⟩)])]).run prog w = .ok (.bool true) w := by kernel_rfl
theorem ass199_129 (w : World) : (ReflectliteType.relation "AssignableTo" ReflectliteType.assignableTo #[.agg #[.pointer (some ⟨2, 199, none⟩)], .iface 183 (.agg #[.pointer (some ⟨2, 129, none⟩)])]).run prog w = .ok (.bool false) w := by kernel_rfl
theorem valueOf130 (t : Addr) (w : World) : (ReflectliteValue.unpack (.iface 130 (.pointer (some t)))).run prog w
  = .ok (.agg #[.pointer (some ⟨2, 130, none⟩), .pointer (some ⟨w.heap.size, 0, none⟩), .int .u64 150]) (w.alloc (.cells #[.pointer (some t)] 130)) := by kernel_rfl
theorem type130 (a : Addr) (w : World) : (ReflectliteValue.methodAny (ReflectliteValue.valueError "reflectlite.Value.Type" 0) (fun t _ _ _ => ReflectliteType.toType t) #[.agg #[.pointer (some ⟨2, 130, none⟩), .pointer (some a), .int .u64 150]]).run prog w
  = .ok (.iface 183 (.agg #[.pointer (some ⟨2, 130, none⟩)])) w := by kernel_rfl
theorem kind130 (w : World) : ((ReflectliteType.abiMethod fun t => (fun a : Nat => Value.int IntKind.u8 (a : Int)) <$> Rtype.kind t) #[.pointer (some ⟨2, 130, none⟩)]).run prog w = .ok (.int .u8 22) w := by kernel_rfl
theorem kind129 (w : World) : ((ReflectliteType.abiMethod fun t => (fun a : Nat => Value.int IntKind.u8 (a : Int)) <$> Rtype.kind t) #[.pointer (some ⟨2, 129, none⟩)]).run prog w = .ok (.int .u8 22) w := by kernel_rfl
theorem parts130 (a : Addr) (w : World) : (ReflectliteValue.parts (.agg #[.pointer (some ⟨2, 130, none⟩), .pointer (some a), .int .u64 150])).run prog w = .ok (some (130, a, 150)) w := by kernel_rfl
theorem isNil130 (a p : Addr) (W : World) (ha : W.cell? a = some (.pointer (some p))) :
  (ReflectliteValue.method (ReflectliteValue.valueError "reflectlite.Value.IsNil" 0) ReflectliteValue.isNil #[.agg #[.pointer (some ⟨2, 130, none⟩), .pointer (some a), .int .u64 150]]).run prog W = .ok (.bool false) W := by
 rw [rlm]
 simp only [Sem.run_bind, parts130, Result.andThen]
 simp [ReflectliteValue.isNil, loadVar, isAgg, underlying, underlying130, ha, Result.andThen]
theorem elem130 (w : World) : (ReflectliteType.method ReflectliteType.elem #[.agg #[.pointer (some ⟨2, 130, none⟩)]]).run prog w = .ok (.iface 183 (.agg #[.pointer (some ⟨2, 129, none⟩)])) w := by kernel_rfl
theorem implements129 (w : World) : (ReflectliteType.relation "Implements" ReflectliteType.implements_ #[.agg #[.pointer (some ⟨2, 129, none⟩)], .iface 183 (.agg #[.pointer (some ⟨2, 30, none⟩)])]).run prog w = .ok (.bool true) w := by kernel_rfl
theorem valueOfE129 (p : Addr) (w : World) : (ReflectliteValue.unpack (.iface 129 (.pointer (some p)))).run prog w
  = .ok (.agg #[.pointer (some ⟨2, 129, none⟩), .pointer (some ⟨w.heap.size, 0, none⟩), .int .u64 150]) (w.alloc (.cells #[(.pointer (some p))] 129)) := by kernel_rfl
theorem elemOf130 (w : World) : (Rtype.elem? 130).run prog w = .ok (some 129) w := by kernel_rfl
theorem mk129 (p : Addr) (w : World) : (ReflectliteValue.mk 129 p ReflectliteValue.flagAddr).run prog w = .ok (.agg #[.pointer (some ⟨2, 129, none⟩), .pointer (some p), .int .u64 406]) w := by kernel_rfl
theorem elemV130 (a p : Addr) (W : World) (ha : W.cell? a = some (.pointer (some p))) :
  (ReflectliteValue.method (ReflectliteValue.valueError "reflectlite.Value.Elem" 0) ReflectliteValue.elem #[.agg #[.pointer (some ⟨2, 130, none⟩), .pointer (some a), .int .u64 150]]).run prog W
   = .ok (.agg #[.pointer (some ⟨2, 129, none⟩), .pointer (some p), .int .u64 406]) W := by
 rw [rlm]
 simp only [Sem.run_bind, parts130, Result.andThen]
 simp [ReflectliteValue.elem, loadVar, isAgg, underlying, underlying130, ha, Result.andThen, elemOf130, mk129]
theorem partsA129 (a : Addr) (w : World) : (ReflectliteValue.parts (.agg #[.pointer (some ⟨2, 129, none⟩), .pointer (some a), .int .u64 406])).run prog w = .ok (some (129, a, 406)) w := by kernel_rfl
theorem partsV129 (a : Addr) (w : World) : (ReflectliteValue.parts (.agg #[.pointer (some ⟨2, 129, none⟩), .pointer (some a), .int .u64 150])).run prog w = .ok (some (129, a, 150)) w := by kernel_rfl
theorem direct129 (w : World) : (Rtype.directlyAssignable 129 129).run prog w = .ok true w := by kernel_rfl
theorem set129 (ta b : Addr) (p : Addr) (old : Value) (W : World) (hb : W.cell? b = some (.pointer (some p))) (ht : W.cell? ta = some old) (hf : W.frozen? ta = false) :
  (ReflectliteValue.set #[.agg #[.pointer (some ⟨2, 129, none⟩), .pointer (some ta), .int .u64 406], .agg #[.pointer (some ⟨2, 129, none⟩), .pointer (some b), .int .u64 150]]).run prog W
   = .ok (.tuple #[]) (W.setCell ta (.pointer (some p))) := by
 rw [rls]
 simp only [Sem.run_bind, partsA129, partsV129, Result.andThen]
 simp [ReflectliteValue.flagAddr, loadVar, isAgg, underlying, underlying129, hb, Result.andThen, direct129, storeVar, Value.cells, storeCells, Addr.add]
 rw [run_store prog W ta _ _ (by rfl)]
 simp [ht, hf]
inductive Ch129 (w : World) : Nat → Value → Option Value → Prop
 | hit {p : Addr} : Ch129 w 0 (.iface 129 (.pointer (some p))) (some (.pointer (some p)))
 | code {v : Value} : Ch129 w 0 (.iface 40 v) none
 | field {b o : Nat} {e : Value} {r : Option Value} {n : Nat} : w.cell? ⟨b, o + 1, none⟩ = some e → Ch129 w n e r → Ch129 w (n + 1) (.iface 199 (.pointer (some ⟨b, o, none⟩))) r
 | fieldNil {b o : Nat} : w.cell? ⟨b, o + 1, none⟩ = some .nilIface → Ch129 w 0 (.iface 199 (.pointer (some ⟨b, o, none⟩))) none
theorem Ch129.iface {w : World} {n : Nat} {e : Value} {r : Option Value} (h : Ch129 w n e r) : ∃ ty v, e = .iface ty v := by cases h <;> exact ⟨_, _, rfl⟩
theorem as_loop129 (e : Value) (n : Nat) (r : Option Value) (a t : Addr) (old : Value) (w : World) (tg : Value) (hch : Ch129 w n e r) (ha : w.cell? a = some (.pointer (some t))) (ht0 : w.cell? t = some old) (hf0 : w.frozen? t = false) :
  Calls prog 87 #[e, tg, .agg #[.pointer (some ⟨2, 130, none⟩), .pointer (some a), .int .u64 150], .iface 183 (.agg #[.pointer (some ⟨2, 129, none⟩)])] w fun ev w' =>
  Out w t r ev w' := by
 have hal : a.block < w.heap.size := by
  rcases Nat.lt_or_ge a.block w.heap.size with h | h
  ·exact h
  ·simp [World.cell?, Array.getElem?_eq_none h] at ha
 have htl : t.block < w.heap.size := by
  rcases Nat.lt_or_ge t.block w.heap.size with h | h
  ·exact h
  ·simp [World.cell?, Array.getElem?_eq_none h] at ht0
 have hR : ∀ wr : World, Go.Ai.Ext (w.alloc (.cells #[.pointer (some ⟨2, 130, none⟩), .pointer (some a), .int .u64 150] 137)) wr → Go.Ai.Ext w wr ∧ wr.cell? a = some (.pointer (some t)) ∧ wr.cell? t = some old ∧ wr.frozen? t = false ∧ t.block < wr.heap.size ∧
   wr.cell? ⟨w.heap.size, 0, none⟩ = some (.pointer (some ⟨2, 130, none⟩)) ∧ wr.cell? ⟨w.heap.size, 1, none⟩ = some (.pointer (some a)) ∧ wr.cell? ⟨w.heap.size, 2, none⟩ = some (.int .u64 150) := by
  intro wr h
  have h0 : Go.Ai.Ext w wr := (Go.Ai.Ext.alloc w _).trans h
  have hb : w.heap.size < (w.alloc (.cells #[.pointer (some ⟨2, 130, none⟩), .pointer (some a), .int .u64 150] 137)).heap.size := by simp
  refine ⟨h0, (World.cell?_of_block (h0.block _ hal)).trans ha, (World.cell?_of_block (h0.block _ htl)).trans ht0, (World.frozen?_of_block (h0.block _ htl)).trans hf0, Nat.lt_of_lt_of_le htl h0.size, ?_, ?_, ?_⟩
  ·rw [h.cell hb]; simp
  ·rw [h.cell hb]; simp
  ·rw [h.cell hb]; simp
 have hTypeOf := @run_callFunc_extern prog 121 _ ReflectliteType.typeOf func121 (by kernel_rfl) (by kernel_rfl) (by kernel_rfl) (by kernel_rfl)
 have hAT := @run_callFunc_extern prog 202 _ (ReflectliteType.relation "AssignableTo" ReflectliteType.assignableTo) func202 (by kernel_rfl) (by kernel_rfl) (by kernel_rfl) (by kernel_rfl)
 have hElem := @run_callFunc_extern prog 122 _ (ReflectliteValue.method (ReflectliteValue.valueError "reflectlite.Value.Elem" 0) ReflectliteValue.elem) func122 (by kernel_rfl) (by kernel_rfl) (by kernel_rfl) (by kernel_rfl)
 have hVO := @run_callFunc_extern prog 84 _ (fun args => ReflectliteValue.unpack (args.getD 0 (.tuple #[]))) func84 (by kernel_rfl) (by kernel_rfl) (by kernel_rfl) (by kernel_rfl)
 have hSet := @run_callFunc_extern prog 123 _ ReflectliteValue.set func123 (by kernel_rfl) (by kernel_rfl) (by kernel_rfl) (by kernel_rfl)
 have mA := mAssignableTo
 have tO1 := typeOf40
 have tO2 := typeOf129
 have tO3 := typeOf199
 have as1 := ass40_129
 have as2 := ass129_129
 have as3 := ass199_129
 have nA1 := noAs40
 have nA2 := noAs129
 have nA3 := noAs199
 have u1 := noUnw40
 have u2 := isUnw129
 have u3 := isUnw199
 have us1 := noUnws40
 have mUW := mUnwrapW
 have mUF := mUnwrapF
 have vE := valueOfE129
 have enW : ∀ args w, (callFunc 197 args).run prog w = .ok (.enter 197 args) w := Go.Ai.enters_of func197 rfl (by kernel_rfl)
 have enF : ∀ args w, (callFunc 213 args).run prog w = .ok (.enter 213 args) w := Go.Ai.enters_of func213 rfl (by kernel_rfl)
 go_enter func87, ntmps87
 go_wp2
 go_loopg [0] n (fun k x wr => Ch129 w k x r ∧ Go.Ai.Ext (w.alloc (.cells #[.pointer (some ⟨2, 130, none⟩), .pointer (some a), .int .u64 150] 137)) wr)
 case atStart => exact ⟨hch, Go.Ai.Ext.refl _⟩
 case round =>
  obtain ⟨hc, hx⟩ := hrel
  obtain ⟨hx0, ca, ct, cf, hlt, c0, c1, c2⟩ := hR wr hx
  cases hc with
  | @hit x =>
   have el := elemV130 a t wr ca
   have st := set129 t ⟨wr.heap.size, 0, none⟩ x old (wr.alloc (.cells #[(.pointer (some x))] 129)) (by simp) (by rw [World.cell?_alloc_lt _ _ t hlt]; exact ct) (by rw [World.frozen?_alloc_old _ _ t (Nat.ne_of_lt hlt)]; exact cf)
   go_wp2
   go_ret
   exact .yes (hx0.trans (Go.Ai.Ext.alloc _ _)) rfl
  | code =>
   go_wp2
   go_ret
   exact .no hx0
  | @field b o e' _ n' he hc' =>
   have hb : b < w.heap.size := by
    rcases Nat.lt_or_ge b w.heap.size with h | h
    ·exact h
    ·simp [World.cell?, Array.getElem?_eq_none h] at he
   have he' : wr.cell? ⟨b, o + 1, none⟩ = some e' := (hx0.cell hb).trans he
   obtain ⟨ty, v, rfl⟩ := hc'.iface
   go_wp2_with (go_at_call 213; refine (unwrapF b o _ _ he').mono ?_; rintro en w' ⟨rfl, rfl⟩)
   go_roundg n'
   case measure => omega
   case rel => exact ⟨hc', hx⟩
  | @fieldNil b o he =>
   have hb : b < w.heap.size := by
    rcases Nat.lt_or_ge b w.heap.size with h | h
    ·exact h
    ·simp [World.cell?, Array.getElem?_eq_none h] at he
   have he' : wr.cell? ⟨b, o + 1, none⟩ = some .nilIface := (hx0.cell hb).trans he
   go_wp2_with (go_at_call 213; refine (unwrapF b o _ _ he').mono ?_; rintro en w' ⟨rfl, rfl⟩)
   go_ret
   exact .no hx0
theorem Ch129.mono {w w' : World} (hx : Go.Ai.Ext w w') {n : Nat} {e : Value} {r : Option Value} (h : Ch129 w n e r) : Ch129 w' n e r := by
 have key : ∀ {b o : Nat} {e : Value}, w.cell? ⟨b, o, none⟩ = some e → w'.cell? ⟨b, o, none⟩ = some e := by
  intro b o e he
  have hb : b < w.heap.size := by
   rcases Nat.lt_or_ge b w.heap.size with h | h
   ·exact h
   ·simp [World.cell?, Array.getElem?_eq_none h] at he
  exact (hx.cell hb).trans he
 induction h with
 | hit => exact .hit
 | code => exact .code
 | field h _ ih => exact .field (key h) ih
 | fieldNil h => exact .fieldNil (key h)
theorem as_129 (e : Value) (n : Nat) (r : Option Value) (t : Addr) (old : Value) (w : World) (hch : Ch129 w n e r) (hg : w.cell? ⟨0, 0, none⟩ = some (.iface 183 (.agg #[.pointer (some ⟨2, 30, none⟩)]))) (ht0 : w.cell? t = some old) (hf0 : w.frozen? t = false) :
  Calls prog 41 #[e, .iface 130 (.pointer (some t))] w fun ev w' => Out w t r ev w' := by
 have htl : t.block < w.heap.size := by
  rcases Nat.lt_or_ge t.block w.heap.size with h | h
  ·exact h
  ·simp [World.cell?, Array.getElem?_eq_none h] at ht0
 have h0l : 0 < w.heap.size := by
  rcases Nat.eq_zero_or_pos w.heap.size with h0 | h
  ·simp [World.cell?, h0] at hg
  ·exact h
 have h6 := @run_callFunc_extern prog 84 _ (fun args => ReflectliteValue.unpack (args.getD 0 (.tuple #[]))) func84 (by kernel_rfl) (by kernel_rfl) (by kernel_rfl) (by kernel_rfl)
 have h7 := @run_callFunc_extern prog 85 _ (ReflectliteValue.methodAny (ReflectliteValue.valueError "reflectlite.Value.Type" 0) (fun t _ _ _ => ReflectliteType.toType t)) func85 (by kernel_rfl) (by kernel_rfl) (by kernel_rfl) (by kernel_rfl)
 have h8 := @run_callFunc_extern prog 86 _ (ReflectliteValue.method (ReflectliteValue.valueError "reflectlite.Value.IsNil" 0) ReflectliteValue.isNil) func86 (by kernel_rfl) (by kernel_rfl) (by kernel_rfl) (by kernel_rfl)
 have h27 := @run_callFunc_extern prog 191 _ (ReflectliteType.abiMethod fun t => do pure (.int .u8 (← Rtype.kind t))) func191 (by kernel_rfl) (by kernel_rfl) (by kernel_rfl) (by kernel_rfl)
 have h37 := @run_callFunc_extern prog 204 _ (ReflectliteType.method ReflectliteType.elem) func204 (by kernel_rfl) (by kernel_rfl) (by kernel_rfl) (by kernel_rfl)
 have h38 := @run_callFunc_extern prog 205 _ (ReflectliteType.relation "Implements" ReflectliteType.implements_) func205 (by kernel_rfl) (by kernel_rfl) (by kernel_rfl) (by kernel_rfl)
 have f6 := valueOf130
 have f7 := type130
 have mK := mKind
 have mE := mElem
 have mI := mImplements
 have k27 := kind130
 have k25 := kind129
 have e27 := elem130
 have i25 := implements129
 have n8 := isNil130 ⟨w.heap.size, 0, none⟩ t ((w.alloc (.cells #[.pointer (some t)] 130)).alloc (.cells #[.pointer (some ⟨2, 130, none⟩), .pointer (some ⟨w.heap.size, 0, none⟩), .int .u64 150] 137)) (by simp)
 have hg2 : ((w.alloc (.cells #[.pointer (some t)] 130)).alloc (.cells #[.pointer (some ⟨2, 130, none⟩), .pointer (some ⟨w.heap.size, 0, none⟩), .int .u64 150] 137)).cell? ⟨0, 0, none⟩ = some (.iface 183 (.agg #[.pointer (some ⟨2, 30, none⟩)])) := by
  rw [World.cell?_alloc_lt _ _ ⟨0, 0, none⟩ (by simp), World.cell?_alloc_lt _ _ ⟨0, 0, none⟩ h0l]; exact hg
 have hx : Go.Ai.Ext w ((w.alloc (.cells #[.pointer (some t)] 130)).alloc (.cells #[.pointer (some ⟨2, 130, none⟩), .pointer (some ⟨w.heap.size, 0, none⟩), .int .u64 150] 137)) := (Go.Ai.Ext.alloc w _).trans (Go.Ai.Ext.alloc _ _)
 have hloop := as_loop129 e n r ⟨w.heap.size, 0, none⟩ t old ((w.alloc (.cells #[.pointer (some t)] 130)).alloc (.cells #[.pointer (some ⟨2, 130, none⟩), .pointer (some ⟨w.heap.size, 0, none⟩), .int .u64 150] 137)) (.iface 130 (.pointer (some t)))
  (hch.mono hx) (by simp) ((World.cell?_of_block (hx.block _ htl)).trans ht0) ((World.frozen?_of_block (hx.block _ htl)).trans hf0)
 obtain ⟨ty, v, rfl⟩ := hch.iface
 have enA : ∀ args w, (callFunc 87 args).run prog w = .ok (.enter 87 args) w := Go.Ai.enters_of func87 rfl (by kernel_rfl)
 go_enter func41, ntmps41
 go_wp2_with (go_at_call 87; refine hloop.mono ?_; rintro en w' ho)
 cases ho with
 | no hx' =>
  go_wp2
  go_ret
  exact .no (hx.trans hx')
 | yes hx' he =>
  subst he
  go_wp2
  go_ret
  exact .yes (hx.trans hx') rfl
theorem to40 {w : World} {e : Value} {r : Option Value} (h : Go.Ai.Ch 40 129 199 40 w e r) : (e = .nilIface ∧ r = none) ∨ ∃ n, Ch40 w n e r := by
 induction h with
 | nil => exact .inl ⟨rfl, rfl⟩
 | hitC _ => exact .inr ⟨0, .hit⟩
 | hitW h => exact absurd rfl h
 | miss h => exact absurd rfl h
 | step hor _ _ hc _ ih =>
  rcases hor with rfl | rfl
  ·rcases ih with ⟨rfl, rfl⟩ | ⟨n, hn⟩
   ·exact .inr ⟨0, .whereNil hc⟩
   ·exact .inr ⟨n + 1, .where_ hc hn⟩
  ·rcases ih with ⟨rfl, rfl⟩ | ⟨n, hn⟩
   ·exact .inr ⟨0, .fieldNil hc⟩
   ·exact .inr ⟨n + 1, .field hc hn⟩
theorem to129 {w : World} {e : Value} {r : Option Value} (h : Go.Ai.Ch 40 129 199 129 w e r) : (e = .nilIface ∧ r = none) ∨ ∃ n, Ch129 w n e r := by
 induction h with
 | nil => exact .inl ⟨rfl, rfl⟩
 | hitC h => cases h
 | hitW _ => exact .inr ⟨0, .hit⟩
 | miss _ => exact .inr ⟨0, .code⟩
 | step hor hne _ hc _ ih =>
  rcases hor with rfl | rfl
  ·exact absurd rfl hne
  ·rcases ih with ⟨rfl, rfl⟩ | ⟨n, hn⟩
   ·exact .inr ⟨0, .fieldNil hc⟩
   ·exact .inr ⟨n + 1, .field hc hn⟩
theorem Out.as {w w' : World} {t : Addr} {r : Option Value} {e : Ending} (h : Out w t r e w') : Go.Ai.AsOut w t r e w' := by
 cases h with
 | no h => exact .no h
 | yes h1 h2 => exact .yes h1 h2
theorem as_ok (q : Nat × Nat) (hq : q ∈ [(87, 40), (130, 129)]) (e : Value) (r : Option Value) (t : Addr) (old : Value) (w : World) (hch : Go.Ai.Ch 40 129 199 q.2 w e r)
  (hg : w.cell? ⟨0, 0, none⟩ = some (.iface 183 (.agg #[.pointer (some ⟨2, 30, none⟩)]))) (ht0 : w.cell? t = some old) (hf0 : w.frozen? t = false) :
  Calls prog 41 #[e, .iface q.1 (.pointer (some t))] w fun ev w' => Go.Ai.AsOut w t r ev w' := by
 simp only [List.mem_cons, List.not_mem_nil, or_false] at hq
 have hnil : Calls prog 41 #[.nilIface, .iface q.1 (.pointer (some t))] w fun ev w' => Go.Ai.AsOut w t none ev w' :=
  (as_nil _ w).mono fun ev w' h => by obtain ⟨rfl, rfl⟩ := h; exact .no (Go.Ai.Ext.refl _)
 rcases hq with rfl | rfl
 ·rcases to40 hch with ⟨rfl, rfl⟩ | ⟨n, hn⟩
  ·exact hnil
  ·exact (as_40 e n r t old w hn hg ht0 hf0).mono fun _ _ h => h.as
 ·rcases to129 hch with ⟨rfl, rfl⟩ | ⟨n, hn⟩
  ·exact hnil
  ·exact (as_129 e n r t old w hn hg ht0 hf0).mono fun _ _ h => h.as
end Go.Proofs.Tryz.AsX

namespace Go.Ai.T
set_option maxRecDepth 100000
open Go Go.Proofs
theorem en {f : Nat} {fn : Func} {code : Code} (hf : Tryz.prog.funcs[f]? = some fn) (hb : fn.body = some code) (hn : (fn.name == "runtime.NumGoroutine") = false) : Enters E.P f := enters_of hf hb hn
theorem envS_ok {W : World} (hg : W.cell? ⟨0, 0, none⟩ = some (.iface 183 (.agg #[.pointer (some ⟨2, 30, none⟩)]))) : EnvOK E W.heap.size W := by
 have h0 : 0 < W.heap.size := by
  rcases Nat.eq_zero_or_pos W.heap.size with h0 | h
  ·simp [World.cell?, h0] at hg
  ·exact h
 refine env_ok envB_ok ?_ ?_
 ·intro f g hfg
  simp only [E, prim] at hfg
  split at hfg <;> first | (cases hfg; first | exact errorsAs_dom _ _ _ _ | exact builderString_dom _ | exact builderCheck_dom _ | exact stringsJoin_dom) | cases hfg
 ·intro f g hfg
  simp only [E, prim] at hfg
  split at hfg
  ·cases hfg
   exact errorsAs_ok (en Tryz.func41 rfl (by kernel_rfl)) h0 hg Tryz.AsX.as_ok
  ·cases hfg
   exact builderString_ok (en Tryz.func70 rfl (by kernel_rfl)) Tryz.string_nil Tryz.string_zero Tryz.string_room Tryz.string_some
  ·cases hfg
   refine builderCheck_ok (en Tryz.func107 rfl (by kernel_rfl)) Tryz.check_used ?_
   intro b w t ht h1 h2 h3
   simp only [List.contains_eq_mem, List.mem_cons, List.not_mem_nil, or_false, decide_eq_true_eq] at ht
   rcases ht with rfl | rfl
   ·exact Tryz.check_fresh b w _ h1 h2 Tryz.lies_B h3
   ·exact Tryz.check_fresh b w _ h1 h2 Tryz.lies_W h3
  ·cases hfg
   exact stringsJoin_ok (en Tryz.func142 rfl (by kernel_rfl)) Tryz.strings_Join_none Tryz.strings_Join
  ·cases hfg
end Go.Ai.T

