/- Part KF of the proof that a law of this program answers yes at every input: no conditions beyond the given statement. -/
import Derived.Test.YtfajnnnldhfhiaaGreatDoorProg
import Derived.WalkKit
import Derived.LaidEql
import Derived.Stop.Asserts
import Derived.RowKitTokens
import Derived.Deep.LoopGhost
import Derived.Test.YtfajnnnldhfhiaaGreatDoorKD
import Derived.Test.YtfajnnnldhfhiaaGreatDoorKE
import Derived.Test.YtfajnnnldhfhiaaGreatDoorKC
import Derived.Test.YtfajnnnldhfhiaaGreatDoorKS
set_option linter.unusedSimpArgs false
set_option linter.unusedVariables false
set_option linter.all false
namespace Go.Proofs.Tryz.AsX
open Go.RowKit Go.Extern.Stop Go.Stop Go.Extern
set_option maxHeartbeats 4000000
set_option maxRecDepth 100000
theorem as_nil (t : Value) (w : World) : Calls prog 129 #[.nilIface, t] w fun e w' => e = .returned (.bool false) ∧ w' = w := by
 go_enter func129, ntmps129
 go_wp2
 go_ret
 exact ⟨rfl, rfl⟩
theorem rlm (z : Sem Value) (f : TypeId → Addr → Nat → Nat → Sem Value) (v : Value) :
  ReflectliteValue.method z f #[v] = (do match ← ReflectliteValue.parts v with | none => z | some (t, a, fl) => f t a fl (fl % 32)) := rfl
theorem rls (v x : Value) : ReflectliteValue.set #[v, x] = (do
  let (some (dst, a, fl), some (src, b, _)) := (← ReflectliteValue.parts v, ← ReflectliteValue.parts x)
   | unsupported (.noEntry "extern/(internal/reflectlite.Value).Set.zeroValue")
  if fl / ReflectliteValue.flagAddr % 2 == 0 then unsupported (.noEntry "extern/(internal/reflectlite.Value).Set.unaddressable")
  let val ← loadVar src b
  if ← Rtype.directlyAssignable dst src then storeVar dst a val
  else if ← Rtype.implements dst src then
   if (← Rtype.kind src) == 20 then
    match val with
    | .nilIface => unsupported (.noEntry "extern/reflectlite: a nil value of one interface type handed on as a value of another")
    | _ => storeVar dst a val
   else storeVar dst a (.iface src val)
  else panicString ("reflectlite.Set: value of type " ++ (← Rtype.spelt src) ++ " is not assignable to type " ++ (← Rtype.spelt dst))
  pure (.tuple #[])) := rfl
inductive Out (w : World) (t : Addr) : Option Value → Ending → World → Prop
 | no {w' : World} : Go.Ai.Ext w w' → Out w t none (.returned (.bool false)) w'
 | yes {w1 w' : World} {v : Value} : Go.Ai.Ext w w1 → w' = w1.setCell t v → Out w t (some v) (.returned (.bool true)) w'
theorem unwrapW (b o : Nat) (e : Value) (w : World) (h : w.cell? ⟨b, o + 1, none⟩ = some e) : Calls prog 177 #[.pointer (some ⟨b, o, none⟩)] w fun en w' => en = .returned e ∧ w' = w := by
 go_enter func177, ntmps177
 go_wp2
 go_ret
 exact ⟨rfl, rfl⟩
theorem unwrapF (b o : Nat) (e : Value) (w : World) (h : w.cell? ⟨b, o + 1, none⟩ = some e) : Calls prog 179 #[.pointer (some ⟨b, o, none⟩)] w fun en w' => en = .returned e ∧ w' = w := by
 go_enter func179, ntmps179
 go_wp2
 go_ret
 exact ⟨rfl, rfl⟩
theorem mKind (h : Value) (w : World) : (Go.method 353 209 (.agg #[h]) "Kind").run prog w = .ok (171, h) w := by kernel_rfl
theorem mElem (h : Value) (w : World) : (Go.method 353 209 (.agg #[h]) "Elem").run prog w = .ok (186, .agg #[h]) w := by kernel_rfl
theorem mImplements (h : Value) (w : World) : (Go.method 353 209 (.agg #[h]) "Implements").run prog w = .ok (187, .agg #[h]) w := by kernel_rfl
theorem mAssignableTo (h : Value) (w : World) : (Go.method 353 209 (.agg #[h]) "AssignableTo").run prog w = .ok (184, .agg #[h]) w := by kernel_rfl
theorem mUnwrapW (a : Addr) (w : World) : (Go.method 353 76 (.pointer (some a)) "Unwrap").run prog w = .ok (177, .pointer (some a)) w := by kernel_rfl
theorem mUnwrapF (a : Addr) (w : World) : (Go.method 353 185 (.pointer (some a)) "Unwrap").run prog w = .ok (179, .pointer (some a)) w := by kernel_rfl
theorem typeOf47 (v : Value) (w : World) : (ReflectliteType.typeOf #[.iface 47 v]).run prog w = .ok (.iface 209 (.agg #[.pointer (some ⟨2, 47, none⟩)])) w := by kernel_rfl
theorem noAs47 (v : Value) (xT : TypeId) (w : World) : (Instr.typeAssert (.iface 47 v) xT 214 true).run prog w = .ok (.tuple #[.nilIface, .bool false]) w :=
 run_typeAssert_lacksB underlying214 (by kernel_rfl) (by kernel_rfl) v xT w
theorem noUnw47 (v : Value) (xT : TypeId) (w : World) : (Instr.typeAssert (.iface 47 v) xT 217 true).run prog w = .ok (.tuple #[.nilIface, .bool false]) w :=
 run_typeAssert_lacksB underlying217 (by kernel_rfl) (by kernel_rfl) v xT w
theorem noUnws47 (v : Value) (xT : TypeId) (w : World) : (Instr.typeAssert (.iface 47 v) xT 219 true).run prog w = .ok (.tuple #[.nilIface, .bool false]) w :=
 run_typeAssert_lacksB underlying219 (by kernel_rfl) (by kernel_rfl) v xT w
theorem typeOf76 (v : Value) (w : World) : (ReflectliteType.typeOf #[.iface 76 v]).run prog w = .ok (.iface 209 (.agg #[.pointer (some ⟨2, 76, none⟩)])) w := by kernel_rfl
theorem noAs76 (v : Value) (xT : TypeId) (w : World) : (Instr.typeAssert (.iface 76 v) xT 214 true).run prog w = .ok (.tuple #[.nilIface, .bool false]) w :=
 run_typeAssert_lacksB underlying214 (by kernel_rfl) (by kernel_rfl) v xT w
theorem isUnw76 (v : Value) (xT : TypeId) (w : World) : (Instr.typeAssert (.iface 76 v) xT 217 true).run prog w = .ok (.tuple #[.iface 76 v, .bool true]) w :=
 run_typeAssert_hasB underlying217 (by kernel_rfl) v xT w
theorem typeOf185 (v : Value) (w : World) : (ReflectliteType.typeOf #[.iface 185 v]).run prog w = .ok (.iface 209 (.agg #[.pointer (some ⟨2, 185, none⟩)])) w := by kernel_rfl
theorem noAs185 (v : Value) (xT : TypeId) (w : World) : (Instr.typeAssert (.iface 185 v) xT 214 true).run prog w = .ok (.tuple #[.nilIface, .bool false]) w :=
 run_typeAssert_lacksB underlying214 (by kernel_rfl) (by kernel_rfl) v xT w
theorem isUnw185 (v : Value) (xT : TypeId) (w : World) : (Instr.typeAssert (.iface 185 v) xT 217 true).run prog w = .ok (.tuple #[.iface 185 v, .bool true]) w :=
 run_typeAssert_hasB underlying217 (by kernel_rfl) v xT w
theorem ass47_76 (w : World) : (ReflectliteType.relation "AssignableTo" ReflectliteType.assignableTo #[.agg #[.pointer (some ⟨2, 47, none⟩)], .iface 209 (.agg #[.pointer (some ⟨2, 76, none⟩)])]).run prog w = .ok (.bool false) w := by kernel_rfl
theorem ass76_76 (w : World) : (ReflectliteType.relation "AssignableTo" ReflectliteType.assignableTo #[.agg #[.pointer (some ⟨2, 76, none⟩)], .iface 209 (.agg #[.pointer (some ⟨2, 76, none⟩)])]).run prog w = .ok (.bool true) w := by kernel_rfl
theorem ass185_76 (w : World) : (ReflectliteType.relation "AssignableTo" ReflectliteType.assignableTo #[.agg #[.pointer (some ⟨2, 185, none⟩)], .iface 209 (.agg #[.pointer (some ⟨2, 76, none⟩)])]).run prog w = .ok (.bool false) w := by kernel_rfl
theorem valueOf184 (t : Addr) (w : World) : (ReflectliteValue.unpack (.iface 184 (.pointer (some t)))).run prog w
  = .ok (.agg #[.pointer (some ⟨2, 184, none⟩), .pointer (some ⟨w.heap.size, 0, none⟩), .int .u64 150]) (w.alloc (.cells #[.pointer (some t)] 184)) := by kernel_rfl
theorem type184 (a : Addr) (w : World) : (ReflectliteValue.methodAny (ReflectliteValue.valueError "reflectlite.Value.Type" 0) (fun t _ _ _ => ReflectliteType.toType t) #[.agg #[.pointer (some ⟨2, 184, none⟩), .pointer (some a), .int .u64 150]]).run prog w
  = .ok (.iface 209 (.agg #[.pointer (some ⟨2, 184, none⟩)])) w := by kernel_rfl
theorem kind184 (w : World) : ((ReflectliteType.abiMethod fun t => (fun a : Nat => Value.int IntKind.u8 (a : Int)) <$> Rtype.kind t) #[.pointer (some ⟨2, 184, none⟩)]).run prog w = .ok (.int .u8 22) w := by kernel_rfl
theorem kind76 (w : World) : ((ReflectliteType.abiMethod fun t => (fun a : Nat => Value.int IntKind.u8 (a : Int)) <$> Rtype.kind t) #[.pointer (some ⟨2, 76, none⟩)]).run prog w = .ok (.int .u8 22) w := by kernel_rfl
theorem parts184 (a : Addr) (w : World) : (ReflectliteValue.parts (.agg #[.pointer (some ⟨2, 184, none⟩), .pointer (some a), .int .u64 150])).run prog w = .ok (some (184, a, 150)) w := by kernel_rfl
theorem isNil184 (a p : Addr) (W : World) (ha : W.cell? a = some (.pointer (some p))) :
  (ReflectliteValue.method (ReflectliteValue.valueError "reflectlite.Value.IsNil" 0) ReflectliteValue.isNil #[.agg #[.pointer (some ⟨2, 184, none⟩), .pointer (some a), .int .u64 150]]).run prog W = .ok (.bool false) W := by
 rw [rlm]
 simp only [Sem.run_bind, parts184, Result.andThen]
 simp [ReflectliteValue.isNil, loadVar, isAgg, underlying, underlying184, ha, Result.andThen]
theorem elem184 (w : World) : (ReflectliteType.method ReflectliteType.elem #[.agg #[.pointer (some ⟨2, 184, none⟩)]]).run prog w = .ok (.iface 209 (.agg #[.pointer (some ⟨2, 76, none⟩)])) w := by kernel_rfl
theorem implements76 (w : World) : (ReflectliteType.relation "Implements" ReflectliteType.implements_ #[.agg #[.pointer (some ⟨2, 76, none⟩)], .iface 209 (.agg #[.pointer (some ⟨2, 25, none⟩)])]).run prog w = .ok (.bool true) w := by kernel_rfl
theorem valueOfE76 (p : Addr) (w : World) : (ReflectliteValue.unpack (.iface 76 (.pointer (some p)))).run prog w
  = .ok (.agg #[.pointer (some ⟨2, 76, none⟩), .pointer (some ⟨w.heap.size, 0, none⟩), .int .u64 150]) (w.alloc (.cells #[(.pointer (some p))] 76)) := by kernel_rfl
theorem elemOf184 (w : World) : (Rtype.elem? 184).run prog w = .ok (some 76) w := by kernel_rfl
theorem mk76 (p : Addr) (w : World) : (ReflectliteValue.mk 76 p ReflectliteValue.flagAddr).run prog w = .ok (.agg #[.pointer (some ⟨2, 76, none⟩), .pointer (some p), .int .u64 406]) w := by kernel_rfl
theorem elemV184 (a p : Addr) (W : World) (ha : W.cell? a = some (.pointer (some p))) :
  (ReflectliteValue.method (ReflectliteValue.valueError "reflectlite.Value.Elem" 0) ReflectliteValue.elem #[.agg #[.pointer (some ⟨2, 184, none⟩), .pointer (some a), .int .u64 150]]).run prog W
   = .ok (.agg #[.pointer (some ⟨2, 76, none⟩), .pointer (some p), .int .u64 406]) W := by
 rw [rlm]
 simp only [Sem.run_bind, parts184, Result.andThen]
 simp [ReflectliteValue.elem, loadVar, isAgg, underlying, underlying184, ha, Result.andThen, elemOf184, mk76]
theorem partsA76 (a : Addr) (w : World) : (ReflectliteValue.parts (.agg #[.pointer (some ⟨2, 76, none⟩), .pointer (some a), .int .u64 406])).run prog w = .ok (some (76, a, 406)) w := by kernel_rfl
theorem partsV76 (a : Addr) (w : World) : (ReflectliteValue.parts (.agg #[.pointer (some ⟨2, 76, none⟩), .pointer (some a), .int .u64 150])).run prog w = .ok (some (76, a, 150)) w := by kernel_rfl
theorem direct76 (w : World) : (Rtype.directlyAssignable 76 76).run prog w = .ok true w := by kernel_rfl
theorem set76 (ta b : Addr) (p : Addr) (old : Value) (W : World) (hb : W.cell? b = some (.pointer (some p))) (ht : W.cell? ta = some old) (hf : W.frozen? ta = false) :
  (ReflectliteValue.set #[.agg #[.pointer (some ⟨2, 76, none⟩), .pointer (some ta), .int .u64 406], .agg #[.pointer (some ⟨2, 76, none⟩), .pointer (some b), .int .u64 150]]).run prog W
   = .ok (.tuple #[]) (W.setCell ta (.pointer (some p))) := by
 rw [rls]
 simp only [Sem.run_bind, partsA76, partsV76, Result.andThen]
 simp [ReflectliteValue.flagAddr, loadVar, isAgg, underlying, underlying76, hb, Result.andThen, direct76, storeVar, Value.cells, storeCells, Addr.add]
 rw [run_store prog W ta _ _ (by rfl)]
 simp [ht, hf]
inductive Ch76 (w : World) : Nat → Value → Option Value → Prop
 | hit {p : Addr} : Ch76 w 0 (.iface 76 (.pointer (some p))) (some (.pointer (some p)))
 | code {v : Value} : Ch76 w 0 (.iface 47 v) none
 | field {b o : Nat} {e : Value} {r : Option Value} {n : Nat} : w.cell? ⟨b, o + 1, none⟩ = some e → Ch76 w n e r → Ch76 w (n + 1) (.iface 185 (.pointer (some ⟨b, o, none⟩))) r
 | fieldNil {b o : Nat} : w.cell? ⟨b, o + 1, none⟩ = some .nilIface → Ch76 w 0 (.iface 185 (.pointer (some ⟨b, o, none⟩))) none
theorem Ch76.iface {w : World} {n : Nat} {e : Value} {r : Option Value} (h : Ch76 w n e r) : ∃ ty v, e = .iface ty v := by cases h <;> exact ⟨_, _, rfl⟩
theorem as_loop76 (e : Value) (n : Nat) (r : Option Value) (a t : Addr) (old : Value) (w : World) (tg : Value) (hch : Ch76 w n e r) (ha : w.cell? a = some (.pointer (some t))) (ht0 : w.cell? t = some old) (hf0 : w.frozen? t = false) :
  Calls prog 146 #[e, tg, .agg #[.pointer (some ⟨2, 184, none⟩), .pointer (some a), .int .u64 150], .iface 209 (.agg #[.pointer (some ⟨2, 76, none⟩)])] w fun ev w' =>
  Out w t r ev w' := by
 have hal : a.block < w.heap.size := by
  rcases Nat.lt_or_ge a.block w.heap.size with h | h
  ·exact h
  ·simp [World.cell?, Array.getElem?_eq_none h] at ha
 have htl : t.block < w.heap.size := by
  rcases Nat.lt_or_ge t.block w.heap.size with h | h
  ·exact h
  ·simp [World.cell?, Array.getElem?_eq_none h] at ht0
 have hR : ∀ wr : World, Go.Ai.Ext (w.alloc (.cells #[.pointer (some ⟨2, 184, none⟩), .pointer (some a), .int .u64 150] 199)) wr → Go.Ai.Ext w wr ∧ wr.cell? a = some (.pointer (some t)) ∧ wr.cell? t = some old ∧ wr.frozen? t = false ∧ t.block < wr.heap.size ∧
   wr.cell? ⟨w.heap.size, 0, none⟩ = some (.pointer (some ⟨2, 184, none⟩)) ∧ wr.cell? ⟨w.heap.size, 1, none⟩ = some (.pointer (some a)) ∧ wr.cell? ⟨w.heap.size, 2, none⟩ = some (.int .u64 150) := by
  intro wr h
  have h0 : Go.Ai.Ext w wr := (Go.Ai.Ext.alloc w _).trans h
  have hb : w.heap.size < (w.alloc (.cells #[.pointer (some ⟨2, 184, none⟩), .pointer (some a), .int .u64 150] 199)).heap.size := by simp
  refine ⟨h0, (World.cell?_of_block (h0.block _ hal)).trans ha, (World.cell?_of_block (h0.block _ htl)).trans ht0, (World.frozen?_of_block (h0.block _ htl)).trans hf0, Nat.lt_of_lt_of_le htl h0.size, ?_, ?_, ?_⟩
  ·rw [h.cell hb]; simp
  ·rw [h.cell hb]; simp
  ·rw [h.cell hb]; simp
 have hTypeOf := @run_callFunc_extern prog 150 _ ReflectliteType.typeOf func150 (by kernel_rfl) (by kernel_rfl) (by kernel_rfl) (by kernel_rfl)
 have hAT := @run_callFunc_extern prog 184 _ (ReflectliteType.relation "AssignableTo" ReflectliteType.assignableTo) func184 (by kernel_rfl) (by kernel_rfl) (by kernel_rfl) (by kernel_rfl)
 have hElem := @run_callFunc_extern prog 151 _ (ReflectliteValue.method (ReflectliteValue.valueError "reflectlite.Value.Elem" 0) ReflectliteValue.elem) func151 (by kernel_rfl) (by kernel_rfl) (by kernel_rfl) (by kernel_rfl)
 have hVO := @run_callFunc_extern prog 143 _ (fun args => ReflectliteValue.unpack (args.getD 0 (.tuple #[]))) func143 (by kernel_rfl) (by kernel_rfl) (by kernel_rfl) (by kernel_rfl)
 have hSet := @run_callFunc_extern prog 152 _ ReflectliteValue.set func152 (by kernel_rfl) (by kernel_rfl) (by kernel_rfl) (by kernel_rfl)
 have mA := mAssignableTo
 have tO1 := typeOf47
 have tO2 := typeOf76
 have tO3 := typeOf185
 have as1 := ass47_76
 have as2 := ass76_76
 have as3 := ass185_76
 have nA1 := noAs47
 have nA2 := noAs76
 have nA3 := noAs185
 have u1 := noUnw47
 have u2 := isUnw76
 have u3 := isUnw185
 have us1 := noUnws47
 have mUW := mUnwrapW
 have mUF := mUnwrapF
 have vE := valueOfE76
 have enW : ∀ args w, (callFunc 177 args).run prog w = .ok (.enter 177 args) w := Go.Ai.enters_of func177 rfl (by kernel_rfl)
 have enF : ∀ args w, (callFunc 179 args).run prog w = .ok (.enter 179 args) w := Go.Ai.enters_of func179 rfl (by kernel_rfl)
 go_enter func146, ntmps146
 go_wp2
 go_loopg [0] n (fun k x wr => Ch76 w k x r ∧ Go.Ai.Ext (w.alloc (.cells #[.pointer (some ⟨2, 184, none⟩), .pointer (some a), .int .u64 150] 199)) wr)
 case atStart => exact ⟨hch, Go.Ai.Ext.refl _⟩
 case round =>
  obtain ⟨hc, hx⟩ := hrel
  obtain ⟨hx0, ca, ct, cf, hlt, c0, c1, c2⟩ := hR wr hx
  cases hc with
  | @hit x =>
   have el := elemV184 a t wr ca
   have st := set76 t ⟨wr.heap.size, 0, none⟩ x old (wr.alloc (.cells #[(.pointer (some x))] 76)) (by simp) (by rw [World.cell?_alloc_lt _ _ t hlt]; exact ct) (by rw [World.frozen?_alloc_old _ _ t (Nat.ne_of_lt hlt)]; exact cf)
   go_wp2
   go_ret
   exact .yes (hx0.trans (Go.Ai.Ext.alloc _ _)) rfl
  | code =>
   go_wp2
   go_ret
   exact .no hx0
  | @field b o e' _ n' he hc' =>
   have hb : b < w.heap.size := by
    rcases Nat.lt_or_ge b w.heap.size with h | h
    ·exact h
    ·simp [World.cell?, Array.getElem?_eq_none h] at he
   have he' : wr.cell? ⟨b, o + 1, none⟩ = some e' := (hx0.cell hb).trans he
   obtain ⟨ty, v, rfl⟩ := hc'.iface
   go_wp2_with (go_at_call 179; refine (unwrapF b o _ _ he').mono ?_; rintro en w' ⟨rfl, rfl⟩)
   go_roundg n'
   case measure => omega
   case rel => exact ⟨hc', hx⟩
  | @fieldNil b o he =>
   have hb : b < w.heap.size := by
    rcases Nat.lt_or_ge b w.heap.size with h | h
    ·exact h
    ·simp [World.cell?, Array.getElem?_eq_none h] at he
   have he' : wr.cell? ⟨b, o + 1, none⟩ = some .nilIface := (hx0.cell hb).trans he
   go_wp2_with (go_at_call 179; refine (unwrapF b o _ _ he').mono ?_; rintro en w' ⟨rfl, rfl⟩)
   go_ret
   exact .no hx0
theorem Ch76.mono {w w' : World} (hx : Go.Ai.Ext w w') {n : Nat} {e : Value} {r : Option Value} (h : Ch76 w n e r) : Ch76 w' n e r := by
 have key : ∀ {b o : Nat} {e : Value}, w.cell? ⟨b, o, none⟩ = some e → w'.cell? ⟨b, o, none⟩ = some e := by
  intro b o e he
  have hb : b < w.heap.size := by
   rcases Nat.lt_or_ge b w.heap.size with h | h
   ·exact h
   ·simp [World.cell?, Array.getElem?_eq_none h] at he
  exact (hx.cell hb).trans he
 induction h with
 | hit => exact .hit
 | code => exact .code
 | field h _ ih => exact .field (key h) ih
 | fieldNil h => exact .fieldNil (key h)
theorem as_76 (e : Value) (n : Nat) (r : Option Value) (t : Addr) (old : Value) (w : World) (hch : Ch76 w n e r) (hg : w.cell? ⟨1, 0, none⟩ = some (.iface 209 (.agg #[.pointer (some ⟨2, 25, none⟩)]))) (ht0 : w.cell? t = some old) (hf0 : w.frozen? t = false) :
  Calls prog 129 #[e, .iface 184 (.pointer (some t))] w fun ev w' => Out w t r ev w' := by
 have htl : t.block < w.heap.size := by
  rcases Nat.lt_or_ge t.block w.heap.size with h | h
  ·exact h
  ·simp [World.cell?, Array.getElem?_eq_none h] at ht0
 have h0l : 1 < w.heap.size := by
  rcases Nat.lt_or_ge 1 w.heap.size with h | h
  ·exact h
  ·simp [World.cell?, Array.getElem?_eq_none h] at hg
 have h6 := @run_callFunc_extern prog 143 _ (fun args => ReflectliteValue.unpack (args.getD 0 (.tuple #[]))) func143 (by kernel_rfl) (by kernel_rfl) (by kernel_rfl) (by kernel_rfl)
 have h7 := @run_callFunc_extern prog 144 _ (ReflectliteValue.methodAny (ReflectliteValue.valueError "reflectlite.Value.Type" 0) (fun t _ _ _ => ReflectliteType.toType t)) func144 (by kernel_rfl) (by kernel_rfl) (by kernel_rfl) (by kernel_rfl)
 have h8 := @run_callFunc_extern prog 145 _ (ReflectliteValue.method (ReflectliteValue.valueError "reflectlite.Value.IsNil" 0) ReflectliteValue.isNil) func145 (by kernel_rfl) (by kernel_rfl) (by kernel_rfl) (by kernel_rfl)
 have h27 := @run_callFunc_extern prog 171 _ (ReflectliteType.abiMethod fun t => do pure (.int .u8 (← Rtype.kind t))) func171 (by kernel_rfl) (by kernel_rfl) (by kernel_rfl) (by kernel_rfl)
 have h37 := @run_callFunc_extern prog 186 _ (ReflectliteType.method ReflectliteType.elem) func186 (by kernel_rfl) (by kernel_rfl) (by kernel_rfl) (by kernel_rfl)
 have h38 := @run_callFunc_extern prog 187 _ (ReflectliteType.relation "Implements" ReflectliteType.implements_) func187 (by kernel_rfl) (by kernel_rfl) (by kernel_rfl) (by kernel_rfl)
 have f6 := valueOf184
 have f7 := type184
 have mK := mKind
 have mE := mElem
 have mI := mImplements
 have k27 := kind184
 have k25 := kind76
 have e27 := elem184
 have i25 := implements76
 have n8 := isNil184 ⟨w.heap.size, 0, none⟩ t ((w.alloc (.cells #[.pointer (some t)] 184)).alloc (.cells #[.pointer (some ⟨2, 184, none⟩), .pointer (some ⟨w.heap.size, 0, none⟩), .int .u64 150] 199)) (by simp)
 have hg2 : ((w.alloc (.cells #[.pointer (some t)] 184)).alloc (.cells #[.pointer (some ⟨2, 184, none⟩), .pointer (some ⟨w.heap.size, 0, none⟩), .int .u64 150] 199)).cell? ⟨1, 0, none⟩ = some (.iface 209 (.agg #[.pointer (some ⟨2, 25, none⟩)])) := by
  rw [World.cell?_alloc_lt _ _ ⟨1, 0, none⟩ (by simp; omega), World.cell?_alloc_lt _ _ ⟨1, 0, none⟩ h0l]; exact hg
 have hx : Go.Ai.Ext w ((w.alloc (.cells #[.pointer (some t)] 184)).alloc (.cells #[.pointer (some ⟨2, 184, none⟩), .pointer (some ⟨w.heap.size, 0, none⟩), .int .u64 150] 199)) := (Go.Ai.Ext.alloc w _).trans (Go.Ai.Ext.alloc _ _)
 have hloop := as_loop76 e n r ⟨w.heap.size, 0, none⟩ t old ((w.alloc (.cells #[.pointer (some t)] 184)).alloc (.cells #[.pointer (some ⟨2, 184, none⟩), .pointer (some ⟨w.heap.size, 0, none⟩), .int .u64 150] 199)) (.iface 184 (.pointer (some t)))
  (hch.mono hx) (by simp) ((World.cell?_of_block (hx.block _ htl)).trans ht0) ((World.frozen?_of_block (hx.block _ htl)).trans hf0)
 obtain ⟨ty, v, rfl⟩ := hch.iface
 have enA : ∀ args w, (callFunc 146 args).run prog w = .ok (.enter 146 args) w := Go.Ai.enters_of func146 rfl (by kernel_rfl)
 go_enter func129, ntmps129
 go_wp2_with (go_at_call 146; refine hloop.mono ?_; rintro en w' ho)
 cases ho with
 | no hx' =>
  go_wp2
  go_ret
  exact .no (hx.trans hx')
 | yes hx' he =>
  subst he
  go_wp2
  go_ret
  exact .yes (hx.trans hx') rfl
theorem to76 {w : World} {e : Value} {r : Option Value} (h : Go.Ai.Ch 47 76 185 76 w e r) : (e = .nilIface ∧ r = none) ∨ ∃ n, Ch76 w n e r := by
 induction h with
 | nil => exact .inl ⟨rfl, rfl⟩
 | hitC h => cases h
 | hitW _ => exact .inr ⟨0, .hit⟩
 | miss _ => exact .inr ⟨0, .code⟩
 | step hor hne _ hc _ ih =>
  rcases hor with rfl | rfl
  ·exact absurd rfl hne
  ·rcases ih with ⟨rfl, rfl⟩ | ⟨n, hn⟩
   ·exact .inr ⟨0, .fieldNil hc⟩
   ·exact .inr ⟨n + 1, .field hc hn⟩
theorem Out.as {w w' : World} {t : Addr} {r : Option Value} {e : Ending} (h : Out w t r e w') : Go.Ai.AsOut w t r e w' := by
 cases h with
 | no h => exact .no h
 | yes h1 h2 => exact .yes h1 h2
theorem as_ok (q : Nat × Nat) (hq : q ∈ [(184, 76)]) (e : Value) (r : Option Value) (t : Addr) (old : Value) (w : World) (hch : Go.Ai.Ch 47 76 185 q.2 w e r)
  (hg : w.cell? ⟨1, 0, none⟩ = some (.iface 209 (.agg #[.pointer (some ⟨2, 25, none⟩)]))) (ht0 : w.cell? t = some old) (hf0 : w.frozen? t = false) :
  Calls prog 129 #[e, .iface q.1 (.pointer (some t))] w fun ev w' => Go.Ai.AsOut w t r ev w' := by
 simp only [List.mem_cons, List.not_mem_nil, or_false] at hq
 have hnil : Calls prog 129 #[.nilIface, .iface q.1 (.pointer (some t))] w fun ev w' => Go.Ai.AsOut w t none ev w' :=
  (as_nil _ w).mono fun ev w' h => by obtain ⟨rfl, rfl⟩ := h; exact .no (Go.Ai.Ext.refl _)
 subst hq
 ·rcases to76 hch with ⟨rfl, rfl⟩ | ⟨n, hn⟩
  ·exact hnil
  ·exact (as_76 e n r t old w hn hg ht0 hf0).mono fun _ _ h => h.as
end Go.Proofs.Tryz.AsX

namespace Go.Ai.T
set_option maxRecDepth 100000
open Go Go.Proofs
theorem en {f : Nat} {fn : Func} {code : Code} (hf : Tryz.prog.funcs[f]? = some fn) (hb : fn.body = some code) (hn : (fn.name == "runtime.NumGoroutine") = false) : Enters E.P f := enters_of hf hb hn
theorem envS_ok {W : World} (hg : W.cell? ⟨1, 0, none⟩ = some (.iface 209 (.agg #[.pointer (some ⟨2, 25, none⟩)]))) : EnvOK E W.heap.size W := by
 have h0 : 1 < W.heap.size := by
  rcases Nat.lt_or_ge 1 W.heap.size with h | h
  ·exact h
  ·simp [World.cell?, Array.getElem?_eq_none h] at hg
 refine env_ok envB_ok ?_ ?_
 ·intro f g hfg
  simp only [E, prim] at hfg
  split at hfg <;> first | (cases hfg; first | exact attrSort_dom | exact builderString_dom _ | exact slicesClone_dom _ _ | exact stringsCompare_dom | exact builderCheck_dom _ | exact stringsJoin_dom | exact errorsAs_dom _ _ _ _) | cases hfg
 ·intro f g hfg
  simp only [E, prim] at hfg
  split at hfg
  ·cases hfg
   exact T0.attrSort_ok
  ·cases hfg
   exact builderString_ok rfl (en Tryz.func25 rfl (by kernel_rfl)) Tryz.string_nil Tryz.string_zero Tryz.string_room Tryz.string_some
  ·cases hfg
   exact slicesClone_ok (en Tryz.func26 rfl (by kernel_rfl)) Tryz.slices_Clone
  ·cases hfg
   exact stringsCompare_ok (en Tryz.func43 rfl (by kernel_rfl)) Tryz.strings_Compare
  ·cases hfg
   refine builderCheck_ok (en Tryz.func46 rfl (by kernel_rfl)) Tryz.check_used ?_
   intro b w t ht h1 h2 h3
   simp only [List.contains_eq_mem, List.mem_cons, List.not_mem_nil, or_false, decide_eq_true_eq] at ht
   rcases ht with rfl | rfl
   ·exact Tryz.check_fresh b w _ h1 h2 Tryz.lies_B h3
   ·exact Tryz.check_fresh b w _ h1 h2 Tryz.lies_W h3
  ·cases hfg
   exact stringsJoin_ok (en Tryz.func103 rfl (by kernel_rfl)) Tryz.strings_Join_none Tryz.strings_Join
  ·cases hfg
   exact errorsAs_ok (en Tryz.func129 rfl (by kernel_rfl)) h0 hg Tryz.AsX.as_ok
  ·cases hfg
end Go.Ai.T

