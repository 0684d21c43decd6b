/- Part KF of the proof that a law of this program answers yes at every input: no conditions beyond the given statement. -/
import Derived.Test.YtalicejjbahmpaaGreatDoorProg
import Derived.WalkKit
import Derived.LaidEql
import Derived.Stop.Asserts
import Derived.RowKitTokens
import Derived.Deep.LoopGhost
import Derived.Test.YtalicejjbahmpaaGreatDoorRows
import Derived.Test.YtalicejjbahmpaaGreatDoorCards
import Derived.Test.YtalicejjbahmpaaGreatDoorTie
import Derived.ChangeVars
import Derived.JoinedOf
import Derived.LaidLaws
import Derived.LaidHandle
import Derived.Stop.Joined
import Derived.SevenTiedAt
import Derived.Test.YtalicejjbahmpaaGreatDoorKD
import Derived.Test.YtalicejjbahmpaaGreatDoorKE
import Derived.Test.YtalicejjbahmpaaGreatDoorKC
import Derived.Test.YtalicejjbahmpaaGreatDoorKU
set_option linter.unusedSimpArgs false
set_option linter.unusedVariables false
set_option linter.all false
namespace Go.Proofs.Tryz.AsX
open Go.RowKit Go.Extern.Stop Go.Stop Go.Extern
set_option maxHeartbeats 4000000
set_option maxRecDepth 100000
theorem as_nil (t : Value) (w : World) : Calls prog 131 #[.nilIface, t] w fun e w' => e = .returned (.bool false) ∧ w' = w := by
 go_enter func131, ntmps131
 go_wp2
 go_ret
 exact ⟨rfl, rfl⟩
theorem rlm (z : Sem Value) (f : TypeId → Addr → Nat → Nat → Sem Value) (v : Value) :
  ReflectliteValue.method z f #[v] = (do match ← ReflectliteValue.parts v with | none => z | some (t, a, fl) => f t a fl (fl % 32)) := rfl
theorem rls (v x : Value) : ReflectliteValue.set #[v, x] = (do
  let (some (dst, a, fl), some (src, b, _)) := (← ReflectliteValue.parts v, ← ReflectliteValue.parts x)
   | unsupported (.noEntry "extern/(internal/reflectlite.Value).Set.zeroValue")
  if fl / ReflectliteValue.flagAddr % 2 == 0 then unsupported (.noEntry "extern/(internal/reflectlite.Value).Set.unaddressable")
  let val ← loadVar src b
  if ← Rtype.directlyAssignable dst src then storeVar dst a val
  else if ← Rtype.implements dst src then
   if (← Rtype.kind src) == 20 then
    match val with
    | .nilIface => unsupported (.noEntry "extern/reflectlite: a nil value of one interface type handed on as a value of another")
    | _ => storeVar dst a val
   else storeVar dst a (.iface src val)
  else panicString ("reflectlite.Set: value of type " ++ (← Rtype.spelt src) ++ " is not assignable to type " ++ (← Rtype.spelt dst))
  pure (.tuple #[])) := rfl
inductive Out (w : World) (t : Addr) : Option Value → Ending → World → Prop
 | no {w' : World} : Go.Ai.Ext w w' → Out w t none (.returned (.bool false)) w'
 | yes {w1 w' : World} {v : Value} : Go.Ai.Ext w w1 → w' = w1.setCell t v → Out w t (some v) (.returned (.bool true)) w'
theorem unwrapW (b o : Nat) (e : Value) (w : World) (h : w.cell? ⟨b, o + 1, none⟩ = some e) : Calls prog 182 #[.pointer (some ⟨b, o, none⟩)] w fun en w' => en = .returned e ∧ w' = w := by
 go_enter func182, ntmps182
 go_wp2
 go_ret
 exact ⟨rfl, rfl⟩
theorem unwrapF (b o : Nat) (e : Value) (w : World) (h : w.cell? ⟨b, o + 1, none⟩ = some e) : Calls prog 184 #[.pointer (some ⟨b, o, none⟩)] w fun en w' => en = .returned e ∧ w' = w := by
 go_enter func184, ntmps184
 go_wp2
 go_ret
 exact ⟨rfl, rfl⟩
theorem mKind (h : Value) (w : World) : (Go.method 350 206 (.agg #[h]) "Kind").run prog w = .ok (176, h) w := by kernel_rfl
theorem mElem (h : Value) (w : World) : (Go.method 350 206 (.agg #[h]) "Elem").run prog w = .ok (191, .agg #[h]) w := by kernel_rfl
theorem mImplements (h : Value) (w : World) : (Go.method 350 206 (.agg #[h]) "Implements").run prog w = .ok (192, .agg #[h]) w := by kernel_rfl
theorem mAssignableTo (h : Value) (w : World) : (Go.method 350 206 (.agg #[h]) "AssignableTo").run prog w = .ok (189, .agg #[h]) w := by kernel_rfl
theorem mUnwrapW (a : Addr) (w : World) : (Go.method 350 74 (.pointer (some a)) "Unwrap").run prog w = .ok (182, .pointer (some a)) w := by kernel_rfl
theorem mUnwrapF (a : Addr) (w : World) : (Go.method 350 178 (.pointer (some a)) "Unwrap").run prog w = .ok (184, .pointer (some a)) w := by kernel_rfl
theorem typeOf47 (v : Value) (w : World) : (ReflectliteType.typeOf #[.iface 47 v]).run prog w = .ok (.iface 206 (.agg #[.pointer (some ⟨2, 47, none⟩)])) w := by kernel_rfl
theorem noAs47 (v : Value) (xT : TypeId) (w : World) : (Instr.typeAssert (.iface 47 v) xT 211 true).run prog w = .ok (.tuple #[.nilIface, .bool false]) w :=
 run_typeAssert_lacksB underlying211 (by kernel_rfl) (by kernel_rfl) v xT w
theorem noUnw47 (v : Value) (xT : TypeId) (w : World) : (Instr.typeAssert (.iface 47 v) xT 214 true).run prog w = .ok (.tuple #[.nilIface, .bool false]) w :=
 run_typeAssert_lacksB underlying214 (by kernel_rfl) (by kernel_rfl) v xT w
theorem noUnws47 (v : Value) (xT : TypeId) (w : World) : (Instr.typeAssert (.iface 47 v) xT 216 true).run prog w = .ok (.tuple #[.nilIface, .bool false]) w :=
 run_typeAssert_lacksB underlying216 (by kernel_rfl) (by kernel_rfl) v xT w
theorem typeOf74 (v : Value) (w : World) : (ReflectliteType.typeOf #[.iface 74 v]).run prog w = .ok (.iface 206 (.agg #[.pointer (some ⟨2, 74, none⟩)])) w := by kernel_rfl
theorem noAs74 (v : Value) (xT : TypeId) (w : World) : (Instr.typeAssert (.iface 74 v) xT 211 true).run prog w = .ok (.tuple #[.nilIface, .bool false]) w :=
 run_typeAssert_lacksB underlying211 (by kernel_rfl) (by kernel_rfl) v xT w
theorem isUnw74 (v : Value) (xT : TypeId) (w : World) : (Instr.typeAssert (.iface 74 v) xT 214 true).run prog w = .ok (.tuple #[.iface 74 v, .bool true]) w :=
 run_typeAssert_hasB underlying214 (by kernel_rfl) v xT w
theorem typeOf178 (v : Value) (w : World) : (ReflectliteType.typeOf #[.iface 178 v]).run prog w = .ok (.iface 206 (.agg #[.pointer (some ⟨2, 178, none⟩)])) w := by kernel_rfl
theorem noAs178 (v : Value) (xT : TypeId) (w : World) : (Instr.typeAssert (.iface 178 v) xT 211 true).run prog w = .ok (.tuple #[.nilIface, .bool false]) w :=
 run_typeAssert_lacksB underlying211 (by kernel_rfl) (by kernel_rfl) v xT w
theorem isUnw178 (v : Value) (xT : TypeId) (w : World) : (Instr.typeAssert (.iface 178 v) xT 214 true).run prog w = .ok (.tuple #[.iface 178 v, .bool true]) w :=
 run_typeAssert_hasB underlying214 (by kernel_rfl) v xT w
theorem ass47_74 (w : World) : (ReflectliteType.relation "AssignableTo" ReflectliteType.assignableTo #[.agg #[.pointer (some ⟨2, 47, none⟩)], .iface 206 (.agg #[.pointer (some ⟨2, 74, none⟩)])]).run prog w = .ok (.bool false) w := by kernel_rfl
theorem ass74_74 (w : World) : (ReflectliteType.relation "AssignableTo" ReflectliteType.assignableTo #[.agg #[.pointer (some ⟨2, 74, none⟩)], .iface 206 (.agg #[.pointer (some ⟨2, 74, none⟩)])]).run prog w = .ok (.bool true) w := by kernel_rfl
theorem ass178_74 (w : World) : (ReflectliteType.relation "AssignableTo" ReflectliteType.assignableTo #[.agg #[.pointer (some ⟨2, 178, none⟩)], .iface 206 (.agg #[.pointer (some ⟨2, 74, none⟩)])]).run prog w = .ok (.bool false) w := by kernel_rfl
theorem valueOf177 (t : Addr) (w : World) : (ReflectliteValue.unpack (.iface 177 (.pointer (some t)))).run prog w
  = .ok (.agg #[.pointer (some ⟨2, 177, none⟩), .pointer (some ⟨w.heap.size, 0, none⟩), .int .u64 150]) (w.alloc (.cells #[.pointer (some t)] 177)) := by kernel_rfl
theorem type177 (a : Addr) (w : World) : (ReflectliteValue.methodAny (ReflectliteValue.valueError "reflectlite.Value.Type" 0) (fun t _ _ _ => ReflectliteType.toType t) #[.agg #[.pointer (some ⟨2, 177, none⟩), .pointer (some a), .int .u64 150]]).run prog w
  = .ok (.iface 206 (.agg #[.pointer (some ⟨2, 177, none⟩)])) w := by kernel_rfl
theorem kind177 (w : World) : ((ReflectliteType.abiMethod fun t => (fun a : Nat => Value.int IntKind.u8 (a : Int)) <$> Rtype.kind t) #[.pointer (some ⟨2, 177, none⟩)]).run prog w = .ok (.int .u8 22) w := by kernel_rfl
theorem kind74 (w : World) : ((ReflectliteType.abiMethod fun t => (fun a : Nat => Value.int IntKind.u8 (a : Int)) <$> Rtype.kind t) #[.pointer (some ⟨2, 74, none⟩)]).run prog w = .ok (.int .u8 22) w := by kernel_rfl
theorem parts177 (a : Addr) (w : World) : (ReflectliteValue.parts (.agg #[.pointer (some ⟨2, 177, none⟩), .pointer (some a), .int .u64 150])).run prog w = .ok (some (177, a, 150)) w := by kernel_rfl
theorem isNil177 (a p : Addr) (W : World) (ha : W.cell? a = some (.pointer (some p))) :
  (ReflectliteValue.method (ReflectliteValue.valueError "reflectlite.Value.IsNil" 0) ReflectliteValue.isNil #[.agg #[.pointer (some ⟨2, 177, none⟩), .pointer (some a), .int .u64 150]]).run prog W = .ok (.bool false) W := by
 rw [rlm]
 simp only [Sem.run_bind, parts177, Result.andThen]
 simp [ReflectliteValue.isNil, loadVar, isAgg, underlying, underlying177, ha, Result.andThen]
theorem elem177 (w : World) : (ReflectliteType.method ReflectliteType.elem #[.agg #[.pointer (some ⟨2, 177, none⟩)]]).run prog w = .ok (.iface 206 (.agg #[.pointer (some ⟨2, 74, none⟩)])) w := by kernel_rfl
theorem implements74 (w : World) : (ReflectliteType.relation "Implements" ReflectliteType.implements_ #[.agg #[.pointer (some ⟨2, 74, none⟩)], .iface 206 (.agg #[.pointer (some ⟨2, 27, none⟩)])]).run prog w = .ok (.bool true) w := by kernel_rfl
theorem valueOfE74 (p : Addr) (w : World) : (ReflectliteValue.unpack (.iface 74 (.pointer (some p)))).run prog w
  = .ok (.agg #[.pointer (some ⟨2, 74, none⟩), .pointer (some ⟨w.heap.size, 0, none⟩), .int .u64 150]) (w.alloc (.cells #[(.pointer (some p))] 74)) := by kernel_rfl
theorem elemOf177 (w : World) : (Rtype.elem? 177).run prog w = .ok (some 74) w := by kernel_rfl
theorem mk74 (p : Addr) (w : World) : (ReflectliteValue.mk 74 p ReflectliteValue.flagAddr).run prog w = .ok (.agg #[.pointer (some ⟨2, 74, none⟩), .pointer (some p), .int .u64 406]) w := by kernel_rfl
theorem elemV177 (a p : Addr) (W : World) (ha : W.cell? a = some (.pointer (some p))) :
  (ReflectliteValue.method (ReflectliteValue.valueError "reflectlite.Value.Elem" 0) ReflectliteValue.elem #[.agg #[.pointer (some ⟨2, 177, none⟩), .pointer (some a), .int .u64 150]]).run prog W
   = .ok (.agg #[.pointer (some ⟨2, 74, none⟩), .pointer (some p), .int .u64 406]) W := by
 rw [rlm]
 simp only [Sem.run_bind, parts177, Result.andThen]
 simp [ReflectliteValue.elem, loadVar, isAgg, underlying, underlying177, ha, Result.andThen, elemOf177, mk74]
theorem partsA74 (a : Addr) (w : World) : (ReflectliteValue.parts (.agg #[.pointer (some ⟨2, 74, none⟩), .pointer (some a), .int .u64 406])).run prog w = .ok (some (74, a, 406)) w := by kernel_rfl
theorem partsV74 (a : Addr) (w : World) : (ReflectliteValue.parts (.agg #[.pointer (some ⟨2, 74, none⟩), .pointer (some a), .int .u64 150])).run prog w = .ok (some (74, a, 150)) w := by kernel_rfl
theorem direct74 (w : World) : (Rtype.directlyAssignable 74 74).run prog w = .ok true w := by kernel_rfl
theorem set74 (ta b : Addr) (p : Addr) (old : Value) (W : World) (hb : W.cell? b = some (.pointer (some p))) (ht : W.cell? ta = some old) (hf : W.frozen? ta = false) :
  (ReflectliteValue.set #[.agg #[.pointer (some ⟨2, 74, none⟩), .pointer (some ta), .int .u64 406], .agg #[.pointer (some ⟨2, 74, none⟩), .pointer (some b), .int .u64 150]]).run prog W
   = .ok (.tuple #[]) (W.setCell ta (.pointer (some p))) := by
 rw [rls]
 simp only [Sem.run_bind, partsA74, partsV74, Result.andThen]
 simp [ReflectliteValue.flagAddr, loadVar, isAgg, underlying, underlying74, hb, Result.andThen, direct74, storeVar, Value.cells, storeCells, Addr.add]
 rw [run_store prog W ta _ _ (by rfl)]
 simp [ht, hf]
inductive Ch74 (w : World) : Nat → Value → Option Value → Prop
 | hit {p : Addr} : Ch74 w 0 (.iface 74 (.pointer (some p))) (some (.pointer (some p)))
 | code {v : Value} : Ch74 w 0 (.iface 47 v) none
 | field {b o : Nat} {e : Value} {r : Option Value} {n : Nat} : w.cell? ⟨b, o + 1, none⟩ = some e → Ch74 w n e r → Ch74 w (n + 1) (.iface 178 (.pointer (some ⟨b, o, none⟩))) r
 | fieldNil {b o : Nat} : w.cell? ⟨b, o + 1, none⟩ = some .nilIface → Ch74 w 0 (.iface 178 (.pointer (some ⟨b, o, none⟩))) none
theorem Ch74.iface {w : World} {n : Nat} {e : Value} {r : Option Value} (h : Ch74 w n e r) : ∃ ty v, e = .iface ty v := by cases h <;> exact ⟨_, _, rfl⟩
theorem as_loop74 (e : Value) (n : Nat) (r : Option Value) (a t : Addr) (old : Value) (w : World) (tg : Value) (hch : Ch74 w n e r) (ha : w.cell? a = some (.pointer (some t))) (ht0 : w.cell? t = some old) (hf0 : w.frozen? t = false) :
  Calls prog 151 #[e, tg, .agg #[.pointer (some ⟨2, 177, none⟩), .pointer (some a), .int .u64 150], .iface 206 (.agg #[.pointer (some ⟨2, 74, none⟩)])] w fun ev w' =>
  Out w t r ev w' := by
 have hal : a.block < w.heap.size := by
  rcases Nat.lt_or_ge a.block w.heap.size with h | h
  ·exact h
  ·simp [World.cell?, Array.getElem?_eq_none h] at ha
 have htl : t.block < w.heap.size := by
  rcases Nat.lt_or_ge t.block w.heap.size with h | h
  ·exact h
  ·simp [World.cell?, Array.getElem?_eq_none h] at ht0
 have hR : ∀ wr : World, Go.Ai.Ext (w.alloc (.cells #[.pointer (some ⟨2, 177, none⟩), .pointer (some a), .int .u64 150] 196)) wr → Go.Ai.Ext w wr ∧ wr.cell? a = some (.pointer (some t)) ∧ wr.cell? t = some old ∧ wr.frozen? t = false ∧ t.block < wr.heap.size ∧
   wr.cell? ⟨w.heap.size, 0, none⟩ = some (.pointer (some ⟨2, 177, none⟩)) ∧ wr.cell? ⟨w.heap.size, 1, none⟩ = some (.pointer (some a)) ∧ wr.cell? ⟨w.heap.size, 2, none⟩ = some (.int .u64 150) := by
  intro wr h
  have h0 : Go.Ai.Ext w wr := (Go.Ai.Ext.alloc w _).trans h
  have hb : w.heap.size < (w.alloc (.cells #[.pointer (some ⟨2, 177, none⟩), .pointer (some a), .int .u64 150] 196)).heap.size := by simp
  refine ⟨h0, (World.cell?_of_block (h0.block _ hal)).trans ha, (World.cell?_of_block (h0.block _ htl)).trans ht0, (World.frozen?_of_block (h0.block _ htl)).trans hf0, Nat.lt_of_lt_of_le htl h0.size, ?_, ?_, ?_⟩
  ·rw [h.cell hb]; simp
  ·rw [h.cell hb]; simp
  ·rw [h.cell hb]; simp
 have hTypeOf := @run_callFunc_extern prog 155 _ ReflectliteType.typeOf func155 (by kernel_rfl) (by kernel_rfl) (by kernel_rfl) (by kernel_rfl)
 have hAT := @run_callFunc_extern prog 189 _ (ReflectliteType.relation "AssignableTo" ReflectliteType.assignableTo) func189 (by kernel_rfl) (by kernel_rfl) (by kernel_rfl) (by kernel_rfl)
 have hElem := @run_callFunc_extern prog 156 _ (ReflectliteValue.method (ReflectliteValue.valueError "reflectlite.Value.Elem" 0) ReflectliteValue.elem) func156 (by kernel_rfl) (by kernel_rfl) (by kernel_rfl) (by kernel_rfl)
 have hVO := @run_callFunc_extern prog 148 _ (fun args => ReflectliteValue.unpack (args.getD 0 (.tuple #[]))) func148 (by kernel_rfl) (by kernel_rfl) (by kernel_rfl) (by kernel_rfl)
 have hSet := @run_callFunc_extern prog 157 _ ReflectliteValue.set func157 (by kernel_rfl) (by kernel_rfl) (by kernel_rfl) (by kernel_rfl)
 have mA := mAssignableTo
 have tO1 := typeOf47
 have tO2 := typeOf74
 have tO3 := typeOf178
 have as1 := ass47_74
 have as2 := ass74_74
 have as3 := ass178_74
 have nA1 := noAs47
 have nA2 := noAs74
 have nA3 := noAs178
 have u1 := noUnw47
 have u2 := isUnw74
 have u3 := isUnw178
 have us1 := noUnws47
 have mUW := mUnwrapW
 have mUF := mUnwrapF
 have vE := valueOfE74
 have enW : ∀ args w, (callFunc 182 args).run prog w = .ok (.enter 182 args) w := Go.Ai.enters_of func182 rfl (by kernel_rfl)
 have enF : ∀ args w, (callFunc 184 args).run prog w = .ok (.enter 184 args) w := Go.Ai.enters_of func184 rfl (by kernel_rfl)
 go_enter func151, ntmps151
 go_wp2
 go_loopg [0] n (fun k x wr => Ch74 w k x r ∧ Go.Ai.Ext (w.alloc (.cells #[.pointer (some ⟨2, 177, none⟩), .pointer (some a), .int .u64 150] 196)) wr)
 case atStart => exact ⟨hch, Go.Ai.Ext.refl _⟩
 case round =>
  obtain ⟨hc, hx⟩ := hrel
  obtain ⟨hx0, ca, ct, cf, hlt, c0, c1, c2⟩ := hR wr hx
  cases hc with
  | @hit x =>
   have el := elemV177 a t wr ca
   have st := set74 t ⟨wr.heap.size, 0, none⟩ x old (wr.alloc (.cells #[(.pointer (some x))] 74)) (by simp) (by rw [World.cell?_alloc_lt _ _ t hlt]; exact ct) (by rw [World.frozen?_alloc_old _ _ t (Nat.ne_of_lt hlt)]; exact cf)
   go_wp2
   go_ret
   exact .yes (hx0.trans (Go.Ai.Ext.alloc _ _)) rfl
  | code =>
   go_wp2
   go_ret
   exact .no hx0
  | @field b o e' _ n' he hc' =>
   have hb : b < w.heap.size := by
    rcases Nat.lt_or_ge b w.heap.size with h | h
    ·exact h
    ·simp [World.cell?, Array.getElem?_eq_none h] at he
   have he' : wr.cell? ⟨b, o + 1, none⟩ = some e' := (hx0.cell hb).trans he
   obtain ⟨ty, v, rfl⟩ := hc'.iface
   go_wp2_with (go_at_call 184; refine (unwrapF b o _ _ he').mono ?_; rintro en w' ⟨rfl, rfl⟩)
   go_roundg n'
   case measure => omega
   case rel => exact ⟨hc', hx⟩
  | @fieldNil b o he =>
   have hb : b < w.heap.size := by
    rcases Nat.lt_or_ge b w.heap.size with h | h
    ·exact h
    ·simp [World.cell?, Array.getElem?_eq_none h] at he
   have he' : wr.cell? ⟨b, o + 1, none⟩ = some .nilIface := (hx0.cell hb).trans he
   go_wp2_with (go_at_call 184; refine (unwrapF b o _ _ he').mono ?_; rintro en w' ⟨rfl, rfl⟩)
   go_ret
   exact .no hx0
theorem Ch74.mono {w w' : World} (hx : Go.Ai.Ext w w') {n : Nat} {e : Value} {r : Option Value} (h : Ch74 w n e r) : Ch74 w' n e r := by
 have key : ∀ {b o : Nat} {e : Value}, w.cell? ⟨b, o, none⟩ = some e → w'.cell? ⟨b, o, none⟩ = some e := by
  intro b o e he
  have hb : b < w.heap.size := by
   rcases Nat.lt_or_ge b w.heap.size with h | h
   ·exact h
   ·simp [World.cell?, Array.getElem?_eq_none h] at he
  exact (hx.cell hb).trans he
 induction h with
 | hit => exact .hit
 | code => exact .code
 | field h _ ih => exact .field (key h) ih
 | fieldNil h => exact .fieldNil (key h)
theorem as_74 (e : Value) (n : Nat) (r : Option Value) (t : Addr) (old : Value) (w : World) (hch : Ch74 w n e r) (hg : w.cell? ⟨1, 0, none⟩ = some (.iface 206 (.agg #[.pointer (some ⟨2, 27, none⟩)]))) (ht0 : w.cell? t = some old) (hf0 : w.frozen? t = false) :
  Calls prog 131 #[e, .iface 177 (.pointer (some t))] w fun ev w' => Out w t r ev w' := by
 have htl : t.block < w.heap.size := by
  rcases Nat.lt_or_ge t.block w.heap.size with h | h
  ·exact h
  ·simp [World.cell?, Array.getElem?_eq_none h] at ht0
 have h0l : 1 < w.heap.size := by
  rcases Nat.lt_or_ge 1 w.heap.size with h | h
  ·exact h
  ·simp [World.cell?, Array.getElem?_eq_none h] at hg
 have h6 := @run_callFunc_extern prog 148 _ (fun args => ReflectliteValue.unpack (args.getD 0 (.tuple #[]))) func148 (by kernel_rfl) (by kernel_rfl) (by kernel_rfl) (by kernel_rfl)
 have h7 := @run_callFunc_extern prog 149 _ (ReflectliteValue.methodAny (ReflectliteValue.valueError "reflectlite.Value.Type" 0) (fun t _ _ _ => ReflectliteType.toType t)) func149 (by kernel_rfl) (by kernel_rfl) (by kernel_rfl) (by kernel_rfl)
 have h8 := @run_callFunc_extern prog 150 _ (ReflectliteValue.method (ReflectliteValue.valueError "reflectlite.Value.IsNil" 0) ReflectliteValue.isNil) func150 (by kernel_rfl) (by kernel_rfl) (by kernel_rfl) (by kernel_rfl)
 have h27 := @run_callFunc_extern prog 176 _ (ReflectliteType.abiMethod fun t => do pure (.int .u8 (← Rtype.kind t))) func176 (by kernel_rfl) (by kernel_rfl) (by kernel_rfl) (by kernel_rfl)
 have h37 := @run_callFunc_extern prog 191 _ (ReflectliteType.method ReflectliteType.elem) func191 (by kernel_rfl) (by kernel_rfl) (by kernel_rfl) (by kernel_rfl)
 have h38 := @run_callFunc_extern prog 192 _ (ReflectliteType.relation "Implements" ReflectliteType.implements_) func192 (by kernel_rfl) (by kernel_rfl) (by kernel_rfl) (by kernel_rfl)
 have f6 := valueOf177
 have f7 := type177
 have mK := mKind
 have mE := mElem
 have mI := mImplements
 have k27 := kind177
 have k25 := kind74
 have e27 := elem177
 have i25 := implements74
 have n8 := isNil177 ⟨w.heap.size, 0, none⟩ t ((w.alloc (.cells #[.pointer (some t)] 177)).alloc (.cells #[.pointer (some ⟨2, 177, none⟩), .pointer (some ⟨w.heap.size, 0, none⟩), .int .u64 150] 196)) (by simp)
 have hg2 : ((w.alloc (.cells #[.pointer (some t)] 177)).alloc (.cells #[.pointer (some ⟨2, 177, none⟩), .pointer (some ⟨w.heap.size, 0, none⟩), .int .u64 150] 196)).cell? ⟨1, 0, none⟩ = some (.iface 206 (.agg #[.pointer (some ⟨2, 27, none⟩)])) := by
  rw [World.cell?_alloc_lt _ _ ⟨1, 0, none⟩ (by simp; omega), World.cell?_alloc_lt _ _ ⟨1, 0, none⟩ h0l]; exact hg
 have hx : Go.Ai.Ext w ((w.alloc (.cells #[.pointer (some t)] 177)).alloc (.cells #[.pointer (some ⟨2, 177, none⟩), .pointer (some ⟨w.heap.size, 0, none⟩), .int .u64 150] 196)) := (Go.Ai.Ext.alloc w _).trans (Go.Ai.Ext.alloc _ _)
 have hloop := as_loop74 e n r ⟨w.heap.size, 0, none⟩ t old ((w.alloc (.cells #[.pointer (some t)] 177)).alloc (.cells #[.pointer (some ⟨2, 177, none⟩), .pointer (some ⟨w.heap.size, 0, none⟩), .int .u64 150] 196)) (.iface 177 (.pointer (some t)))
  (hch.mono hx) (by simp) ((World.cell?_of_block (hx.block _ htl)).trans ht0) ((World.frozen?_of_block (hx.block _ htl)).trans hf0)
 obtain ⟨ty, v, rfl⟩ := hch.iface
 have enA : ∀ args w, (callFunc 151 args).run prog w = .ok (.enter 151 args) w := Go.Ai.enters_of func151 rfl (by kernel_rfl)
 go_enter func131, ntmps131
 go_wp2_with (go_at_call 151; refine hloop.mono ?_; rintro en w' ho)
 cases ho with
 | no hx' =>
  go_wp2
  go_ret
  exact .no (hx.trans hx')
 | yes hx' he =>
  subst he
  go_wp2
  go_ret
  exact .yes (hx.trans hx') rfl
theorem to74 {w : World} {e : Value} {r : Option Value} (h : Go.Ai.Ch 47 74 178 74 w e r) : (e = .nilIface ∧ r = none) ∨ ∃ n, Ch74 w n e r := by
 induction h with
 | nil => exact .inl ⟨rfl, rfl⟩
 | hitC h => cases h
 | hitW _ => exact .inr ⟨0, .hit⟩
 | miss _ => exact .inr ⟨0, .code⟩
 | step hor hne _ hc _ ih =>
  rcases hor with rfl | rfl
  ·exact absurd rfl hne
  ·rcases ih with ⟨rfl, rfl⟩ | ⟨n, hn⟩
   ·exact .inr ⟨0, .fieldNil hc⟩
   ·exact .inr ⟨n + 1, .field hc hn⟩
theorem Out.as {w w' : World} {t : Addr} {r : Option Value} {e : Ending} (h : Out w t r e w') : Go.Ai.AsOut w t r e w' := by
 cases h with
 | no h => exact .no h
 | yes h1 h2 => exact .yes h1 h2
theorem as_ok (q : Nat × Nat) (hq : q ∈ [(177, 74)]) (e : Value) (r : Option Value) (t : Addr) (old : Value) (w : World) (hch : Go.Ai.Ch 47 74 178 q.2 w e r)
  (hg : w.cell? ⟨1, 0, none⟩ = some (.iface 206 (.agg #[.pointer (some ⟨2, 27, none⟩)]))) (ht0 : w.cell? t = some old) (hf0 : w.frozen? t = false) :
  Calls prog 131 #[e, .iface q.1 (.pointer (some t))] w fun ev w' => Go.Ai.AsOut w t r ev w' := by
 simp only [List.mem_cons, List.not_mem_nil, or_false] at hq
 have hnil : Calls prog 131 #[.nilIface, .iface q.1 (.pointer (some t))] w fun ev w' => Go.Ai.AsOut w t none ev w' :=
  (as_nil _ w).mono fun ev w' h => by obtain ⟨rfl, rfl⟩ := h; exact .no (Go.Ai.Ext.refl _)
 subst hq
 ·rcases to74 hch with ⟨rfl, rfl⟩ | ⟨n, hn⟩
  ·exact hnil
  ·exact (as_74 e n r t old w hn hg ht0 hf0).mono fun _ _ h => h.as
end Go.Proofs.Tryz.AsX

namespace Go.Ai.T
set_option maxRecDepth 100000
open Go Go.Proofs
theorem en {f : Nat} {fn : Func} {code : Code} (hf : Tryz.prog.funcs[f]? = some fn) (hb : fn.body = some code) (hn : (fn.name == "runtime.NumGoroutine") = false) : Enters E.P f := enters_of hf hb hn
theorem envS_ok {W : World} (hg : W.cell? ⟨1, 0, none⟩ = some (.iface 206 (.agg #[.pointer (some ⟨2, 27, none⟩)]))) : EnvOK E W.heap.size W := by
 have h0 : 1 < W.heap.size := by
  rcases Nat.lt_or_ge 1 W.heap.size with h | h
  ·exact h
  ·simp [World.cell?, Array.getElem?_eq_none h] at hg
 refine env_ok envB_ok ?_ ?_
 ·intro f g hfg
  simp only [E, prim] at hfg
  split at hfg <;> first | (cases hfg; first | exact T0.attrSortL_dom | exact T0.attrTwice_dom | exact builderString_dom _ | exact builderCheck_dom _ | exact stringsJoin_dom | exact errorsAs_dom _ _ _ _) | cases hfg
 ·intro f g hfg
  simp only [E, prim] at hfg
  split at hfg
  ·cases hfg
   exact T0.attrSortL_ok
  ·cases hfg
   exact T0.attrTwice_ok
  ·cases hfg
   exact builderString_ok rfl (en Tryz.func21 rfl (by kernel_rfl)) Tryz.string_nil Tryz.string_zero Tryz.string_room Tryz.string_some
  ·cases hfg
   refine builderCheck_ok (en Tryz.func42 rfl (by kernel_rfl)) Tryz.check_used ?_
   intro b w t ht h1 h2 h3
   simp only [List.contains_eq_mem, List.mem_cons, List.not_mem_nil, or_false, decide_eq_true_eq] at ht
   rcases ht with rfl | rfl
   ·exact Tryz.check_fresh b w _ h1 h2 Tryz.lies_B h3
   ·exact Tryz.check_fresh b w _ h1 h2 Tryz.lies_W h3
  ·cases hfg
   exact stringsJoin_ok (en Tryz.func105 rfl (by kernel_rfl)) Tryz.strings_Join_none Tryz.strings_Join
  ·cases hfg
   exact errorsAs_ok (en Tryz.func131 rfl (by kernel_rfl)) h0 hg Tryz.AsX.as_ok
  ·cases hfg
end Go.Ai.T

namespace Go.Proofs.YtalicejjbahmpaaGreatDoor
open Go.ChangeShapes Go.WideShapes Go.RowKit
set_option maxRecDepth 100000
theorem Tryz.own : ownKnob Tryz.prog.godebug = none := by kernel_rfl
theorem Tryz.et : Tryz.prog.globalNamed "errors.errorType" = some 1 := by kernel_rfl
theorem Tryz.rt : (Tryz.prog.cutTypes.find? (·.1 == "internal/reflectlite.rtype")).map (·.2) = some 206 := by kernel_rfl
theorem Tryz.oneRow : ((List.range 250).filter fun t => Tryz.prog.rowNamed t [101, 114, 114, 111, 114]) = [27] := by kernel_rfl
theorem Tryz.size : Tryz.prog.types.size = 250 := by kernel_rfl
abbrev laidList : List (String × DataW Unit) := [("errors.errorType", Rows.laid_errors_errorType)]
theorem handle_of_laid {W : World} (h : laidMetH Tryz.prog laidList W) : W.cell? ⟨1, 0, none⟩ = some (.iface 206 (.agg #[.pointer (some ⟨2, 27, none⟩)])) := by
 have h' : laidMet Tryz.prog [] W ∧ handlesMet Tryz.prog laidList W := h
 obtain ⟨name, u, ty, e1, e2, e3, e4, e5⟩ := h'.2 _ (List.mem_singleton.2 rfl)
 have en : name = [101, 114, 114, 111, 114] := (Option.some.inj e1).symm
 subst en
 obtain rfl := Option.some.inj (Tryz.rt.symm.trans e2)
 have hm : ty ∈ (List.range 250).filter fun t => Tryz.prog.rowNamed t [101, 114, 114, 111, 114] := List.mem_filter.2 ⟨List.mem_range.2 (by rw [← Tryz.size]; exact e3), e4⟩
 rw [Tryz.oneRow] at hm
 obtain rfl := List.mem_singleton.1 hm
 have hh : typeHandle Tryz.prog 27 = .pointer (some ⟨2, 27, none⟩) := by kernel_rfl
 rw [hh] at e5
 simpa using World.var?_cell Tryz.et e5 0
noncomputable def laidWorld (os : Os) : World :=
 let w0 := World.holding Tryz.prog os ⟨#[], #[], []⟩
 { w0 with heap := w0.heap.modify 1 fun
   | .cells _ t frozen => .cells #[.iface 206 (.agg #[.pointer (some ⟨2, 27, none⟩)])] t frozen
   | o => o }
theorem laidWorld_met (os : Os) (args : Array Value) : laidMetH Tryz.prog laidList ((laidWorld os).forCall (fun _ _ => 0) ⟨#[], args, []⟩).memory :=
 laidMetH_of_parts (laidMet_nil _ _) (by kernel_rfl)
theorem plain_ok : Go.Ai.plainB Go.Ai.T.E.P [3, 4, 9, 22, 33, 34, 36, 38, 146] = true := by kernel_rfl
theorem laidOut : laidOutB Go.Ai.T.E.P = true := by kernel_rfl
theorem valTypes : Go.Ai.ValTypes Go.Ai.T.E.P 36 38 3 9 4 33 34 22 where
 hv := by kernel_rfl
 hk := by kernel_rfl
 hi := Tryz.underlying3
 hs := Tryz.underlying9
 hb := Tryz.underlying4
 hu := Tryz.underlying33
 hvs := Tryz.underlying34
 hks := Tryz.underlying22
theorem argV {a : Go.Ai.A} (h : Go.Ai.ArgT Go.Ai.T.E.P 36 a) : ∃ x : Go.Ai.Val, a = .agg (Go.Ai.encV x) ∧ x.wf := by
 simp only [Go.Ai.ArgT] at h
 rw [show Go.Ai.T.E.P.underlying 36 = Tryz.prog.underlying 36 from rfl, Tryz.underlying36] at h
 obtain ⟨as', rfl, hw⟩ := h
 obtain ⟨x, rfl, hx⟩ := (hw.values valTypes).1 rfl
 exact ⟨x, rfl, hx⟩
theorem argK {a : Go.Ai.A} (h : Go.Ai.ArgT Go.Ai.T.E.P 38 a) : ∃ x : Go.Ai.KV, a = .agg (Go.Ai.encK x) ∧ x.wf := by
 simp only [Go.Ai.ArgT] at h
 rw [show Go.Ai.T.E.P.underlying 38 = Tryz.prog.underlying 38 from rfl, Tryz.underlying38] at h
 obtain ⟨as', rfl, hw⟩ := h
 obtain ⟨x, rfl, hx⟩ := (hw.values valTypes).2.1 rfl
 exact ⟨x, rfl, hx⟩
theorem argKs {a : Go.Ai.A} (h : Go.Ai.ArgT Go.Ai.T.E.P 22 a) : ∃ l : List Go.Ai.KV, a = .slice (l.map Go.Ai.encK) none ∧ l.length ≤ Go.Ai.maxStr ∧ ∀ x ∈ l, x.wf := by
 simp only [Go.Ai.ArgT] at h
 rw [show Go.Ai.T.E.P.underlying 22 = Tryz.prog.underlying 22 from rfl, Tryz.underlying22] at h
 obtain ⟨l, hl, h1, h2⟩ := (h.values valTypes).2.2.2 rfl
 simp only [List.cons.injEq, and_true] at hl
 exact ⟨l, hl, h1, h2⟩
theorem argS {a : Go.Ai.A} (h : Go.Ai.ArgT Go.Ai.T.E.P 9 a) : ∃ s : List UInt8, a = .str s ∧ s.length ≤ Go.Ai.maxStr := by
 simp only [Go.Ai.ArgT] at h
 rw [show Go.Ai.T.E.P.underlying 9 = Tryz.prog.underlying 9 from rfl, Tryz.underlying9] at h
 obtain ⟨s, hs, h1⟩ := h.str_inv Tryz.underlying9
 simp only [List.cons.injEq, and_true] at hs
 exact ⟨s, hs, h1⟩
theorem argI {a : Go.Ai.A} (h : Go.Ai.ArgT Go.Ai.T.E.P 3 a) : ∃ n : Int, a = .int .i64 n ∧ -9223372036854775808 ≤ n ∧ n ≤ 9223372036854775807 := by
 simp only [Go.Ai.ArgT] at h
 rw [show Go.Ai.T.E.P.underlying 3 = Tryz.prog.underlying 3 from rfl, Tryz.underlying3] at h
 obtain ⟨n, hn, h1⟩ := h.int_inv Tryz.underlying3
 simp only [List.cons.injEq, and_true] at hn
 simp [IntKind.min, IntKind.max, IntKind.bits, IntKind.signed] at h1
 exact ⟨n, hn, h1⟩
theorem argU {a : Go.Ai.A} (h : Go.Ai.ArgT Go.Ai.T.E.P 33 a) : ∃ n : Nat, a = .int .u64 n ∧ n < 18446744073709551616 := by
 simp only [Go.Ai.ArgT] at h
 rw [show Go.Ai.T.E.P.underlying 33 = Tryz.prog.underlying 33 from rfl, Tryz.underlying33] at h
 obtain ⟨n, hn, h1⟩ := h.int_inv Tryz.underlying33
 simp only [List.cons.injEq, and_true] at hn
 simp [IntKind.min, IntKind.max, IntKind.bits, IntKind.signed] at h1
 obtain ⟨m, rfl⟩ := Int.eq_ofNat_of_zero_le h1.1
 exact ⟨m, hn, by omega⟩
end Go.Proofs.YtalicejjbahmpaaGreatDoor

