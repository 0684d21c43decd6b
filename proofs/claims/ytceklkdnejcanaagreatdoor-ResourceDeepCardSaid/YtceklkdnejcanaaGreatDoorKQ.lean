/- Part KQ of the proof that a law of this program answers yes at every input: no conditions beyond the given statement. -/
import Derived.Test.YtceklkdnejcanaaGreatDoorKE
import Derived.Test.YtceklkdnejcanaaGreatDoorKP
import Derived.Test.YtceklkdnejcanaaGreatDoorKH
import Derived.Test.YtceklkdnejcanaaGreatDoorKG
import Derived.Test.YtceklkdnejcanaaGreatDoorKI
set_option linter.unusedSimpArgs false
set_option linter.unusedVariables false
set_option linter.all false
namespace Go.Ai.T
open Go Go.Proofs
set_option maxRecDepth 100000
set_option maxHeartbeats 4000000
theorem stakes_ok (p : Id) (h : Heap) (a b : Nat) : callW E p 59 [.int .i64 a, .int .i64 b] h = some (.bool (takesS a b), dropFrom p 0 h) := by
 rw [eq_59]
 have b0 : ((b : Int) = 0) = (b = 0) := propext (by omega)
 have b2 : ((b : Int) = 2) = (b = 2) := propext (by omega)
 have hb : ∀ n : Nat, (b == n) = decide (b = n) := fun n => rfl
 rcases Nat.lt_or_ge a 5 with h8 | h8
 ·match a, h8 with
  | 0, _ => simp -implicitDefEqProofs (maxSteps := 1000000) [Tryz.f59, Code.key, nat0, takesS]
  | 1, _ => simp -implicitDefEqProofs (maxSteps := 1000000) [Tryz.f59, Code.key, nl1, takesS, b0, b2, hb]
  | 2, _ => simp -implicitDefEqProofs (maxSteps := 1000000) [Tryz.f59, Code.key, nl2, takesS, b0, b2, hb]
  | 3, _ => simp -implicitDefEqProofs (maxSteps := 1000000) [Tryz.f59, Code.key, nl3, takesS, b0, b2, hb]
  | 4, _ => simp -implicitDefEqProofs (maxSteps := 1000000) [Tryz.f59, Code.key, nl4, takesS, b0, b2, hb]
  | n + 5, h => omega
 ·have e : takesS a b = false := by
   unfold takesS
   split <;> first | omega | rfl
  have c1 : ¬ (a : Int) = 1 := by omega
  have c2 : ¬ (a : Int) = 2 := by omega
  have c3 : ¬ (a : Int) = 3 := by omega
  have c4 : ¬ (a : Int) = 4 := by omega
  have d1 : ¬ a = 1 := by omega
  have d2 : ¬ a = 2 := by omega
  have d3 : ¬ a = 3 := by omega
  have d4 : ¬ a = 4 := by omega
  simp -implicitDefEqProofs (maxSteps := 1000000) [Tryz.f59, Code.key, e, c1, c2, c3, c4, d1, d2, d3, d4]
theorem stakesR_ok (p : Id) (h : Heap) (a b : Nat) : callW E p 33 [.int .i64 a, .int .i64 b] h = some (.bool (takesRs a b), dropFrom p 0 h) := by
 rw [eq_33]
 have b0 : ((b : Int) = 0) = (b = 0) := propext (by omega)
 have b2 : ((b : Int) = 2) = (b = 2) := propext (by omega)
 have hb : ∀ n : Nat, (b == n) = decide (b = n) := fun n => rfl
 by_cases a1 : a = 1
 ·subst a1
  by_cases k2 : b = 2
  ·subst k2; simp -implicitDefEqProofs (maxSteps := 1000000) [Tryz.f33, Code.key, nl1, nl2, takesRs]
  ·simp -implicitDefEqProofs (maxSteps := 1000000) [Tryz.f33, Code.key, nl1, takesRs, b0, b2, hb, k2]
 by_cases a2 : a = 2
 ·subst a2
  by_cases k0 : b = 0
  ·subst k0; simp -implicitDefEqProofs (maxSteps := 1000000) [Tryz.f33, Code.key, nl2, nat0, takesRs]
  ·simp -implicitDefEqProofs (maxSteps := 1000000) [Tryz.f33, Code.key, nl2, takesRs, b0, b2, hb, k0]
 have c1 : ¬ (a : Int) = 1 := by omega
 have c2 : ¬ (a : Int) = 2 := by omega
 simp -implicitDefEqProofs (maxSteps := 1000000) [Tryz.f33, Code.key, takesRs, a1, a2, c1, c2]
theorem wrap_u32_nat (n : Nat) : IntKind.u32.wrap n = ((n % 4294967296 : Nat) : Int) := by
 simp [IntKind.wrap, IntKind.bits, IntKind.signed]
theorem xvar_ok {id : Id} {o : Option (List UInt8)} {num n : Nat} (h1 : 1 ≤ num) (h2 : num ≤ 536870911) (hn : n < 18446744073709551616) (hb : (o.getD []).length + (numB num n).length ≤ 70368744177664) {p : Id} (a : Apart p (77 :: id)) {h : Heap} (hh : h (77 :: id) = some (bld (77 :: id) o)) :
  callW E p 39 [.ptr (77 :: id) 0, .int .i64 num, .int .u64 n] h = some (.tuple [], upd (dropFrom p 0 h) (77 :: id) (bld (77 :: id) (orW o (decide (0 < n)) (numB num n)))) := by
 obtain ⟨f1, f2, f3, f4, f5, f6⟩ := a.facts
 have g2 := fun k h hh => xfew_ok h1 h2 hn hb (a.sub k) (h := h) hh
 rw [eq_39]
 by_cases hp : 0 < n
 ·have hp' : (0 : Int) < n := by omega
  simp -implicitDefEqProofs (maxSteps := 1000000) [Tryz.f39, Code.key, hh, f1, f2, f3, f4, f5, f6, g2, orW, hp, hp']
 ·have hp' : ¬ (0 : Int) < n := by omega
  simp -implicitDefEqProofs (maxSteps := 1000000) [Tryz.f39, Code.key, hh, f1, f2, f3, f4, f5, f6, orW, hp, hp']
  rw [upd_id (h := dropFrom p 0 h) (by rw [f2, hh])]
theorem mfixed_ok {e0 u dd en : A} {num : Nat} {rs : List Rec} (hn : rs.length ≤ 1099511627776) {p id : Id} (a : Apart p id) {h : Heap} (hh : h id = some [e0, u, dd, en, growing (115, 5) (recsA rs)]) :
  callW E p 36 [.ptr id 0, .int .i64 num] h = some (.int .u64 (lastR num rs).n, dropFrom p 0 h) := by
 obtain ⟨f1, f2, f3, f4, f5, f6⟩ := a.facts
 have g := fun k h (hh : h id = some [e0, u, dd, en, growing (115, 5) (recsA rs)]) => last_ok (num := num) hn (a.sub k) (h := h) hh
 simp only [encRec] at g
 rw [eq_36]
 simp -implicitDefEqProofs (maxSteps := 1000000) [Tryz.f36, Code.hide, Code.key, hh, f1, f2, f3, f4, f5, f6, g]
open Classical in
theorem csameRs_ok {a b : ResM} (hw : a.wf) (p : Id) (h : Heap) : callW E p 13 [.agg (encRes a), .agg (encRes b)] h = some (.bool (decide (a = b)), dropFrom p 0 h) := by
 obtain ⟨l, dr, u⟩ := a
 obtain ⟨l', dr', u'⟩ := b
 obtain ⟨hl, hwl, _, _⟩ := hw
 have hk := fun q h => sameKeys_ok (l := l) (m := l') hl hwl q h
 unfold encRes
 dsimp only
 rw [eq_13]
 by_cases e5 : l = l'
 ·subst e5
  by_cases e3 : dr = dr'
  ·subst e3
   by_cases e4 : u = u'
   ·subst e4; simp -implicitDefEqProofs (maxSteps := 1000000) [Tryz.f13, Code.key, hk]
   ·simp -implicitDefEqProofs (maxSteps := 1000000) [Tryz.f13, Code.key, hk, e4]
  ·have e3' : ¬ ((dr : Int) = dr') := by omega
   simp -implicitDefEqProofs (maxSteps := 1000000) [Tryz.f13, Code.key, hk, e3, e3']
 ·by_cases e3 : dr = dr'
  ·subst e3
   by_cases e4 : u = u'
   ·subst e4; simp -implicitDefEqProofs (maxSteps := 1000000) [Tryz.f13, Code.key, hk, e5]
   ·simp -implicitDefEqProofs (maxSteps := 1000000) [Tryz.f13, Code.key, hk, e4, e5]
  ·have e3' : ¬ ((dr : Int) = dr') := by omega
   simp -implicitDefEqProofs (maxSteps := 1000000) [Tryz.f13, Code.key, hk, e3, e3', e5]
open Classical in
theorem crsameRs_ok {a b : ResM} (hw : a.wf) (p : Id) (h : Heap) : callW E p 14 [.agg (encRes a), .agg (encRes b)] h = some (.bool (decide (a = b)), dropFrom p 0 h) := by
 obtain ⟨l, dr, u⟩ := a
 obtain ⟨l', dr', u'⟩ := b
 obtain ⟨hl, hwl, _, _⟩ := hw
 have hk := fun q h => rKeys_ok (l := l) (m := l') hl hwl q h
 unfold encRes
 dsimp only
 rw [eq_14]
 by_cases e5 : l = l'
 ·subst e5
  by_cases e3 : dr = dr'
  ·subst e3
   by_cases e4 : u = u'
   ·subst e4; simp -implicitDefEqProofs (maxSteps := 1000000) [Tryz.f14, Code.key, hk]
   ·simp -implicitDefEqProofs (maxSteps := 1000000) [Tryz.f14, Code.key, hk, e4]
  ·have e3' : ¬ ((dr : Int) = dr') := by omega
   simp -implicitDefEqProofs (maxSteps := 1000000) [Tryz.f14, Code.key, hk, e3, e3']
 ·by_cases e3 : dr = dr'
  ·subst e3
   by_cases e4 : u = u'
   ·subst e4; simp -implicitDefEqProofs (maxSteps := 1000000) [Tryz.f14, Code.key, hk, e5]
   ·simp -implicitDefEqProofs (maxSteps := 1000000) [Tryz.f14, Code.key, hk, e4, e5]
  ·have e3' : ¬ ((dr : Int) = dr') := by omega
   simp -implicitDefEqProofs (maxSteps := 1000000) [Tryz.f14, Code.key, hk, e3, e3', e5]
def roomS (x : ScopeM) (r : Int) : Int := roomK x.attrs 40 (takeR (takeR (takeR r x.name.length) x.version.length) x.unk.length)
def roomRs (x : ResM) (r : Int) : Int := roomK x.attrs 40 (takeR r x.unk.length)
theorem croomRs_ok {x : ResM} (hw : x.wf) {r : Int} (hr : -1 ≤ r) (hr2 : r ≤ 9223372036854775807) (p : Id) (h : Heap) : callW E p 12 [.agg (encRes x), .int .i64 r] h = some (.int .i64 (roomRs x r), dropFrom p 0 h) := by
 obtain ⟨l, dr, u⟩ := x
 obtain ⟨hl, hwl, hd, hu⟩ := hw
 dsimp only at hl hwl hd hu
 have ht1 := fun q h => take_ok (room := r) (n := u.length) hr hr2 (by omega) q h
 have hl1 := takeR_le (room := r) (n := u.length) hr (by omega)
 have hk := fun q h => roomK_ok hl hwl (d := 40) (r := takeR r u.length) (by omega) (by omega) hl1.1 (by omega) q h
 unfold encRes roomRs
 dsimp only
 rw [eq_12]
 simp -implicitDefEqProofs (maxSteps := 1000000) [Tryz.f12, Code.key, ht1, hk]
theorem resources_ok (p : Id) (h : Heap) : callW E p 49 [] h = some (.slice (intsA [10, 16]) none, dropFrom p 0 h) := by
 rw [eq_49]
 simp -implicitDefEqProofs (maxSteps := 1000000) [Tryz.f49, Code.key, intsA]
theorem tabRs (num kind : Nat) (h : kind < 8) : tabR [10, 16] num kind = takesRs num kind := by
 rcases Nat.lt_or_ge num 3 with h8 | h8
 ·have : ∀ n : Fin 3, ∀ k : Fin 8, tabR [10, 16] n.val k.val = takesRs n.val k.val := by decide
  exact this ⟨num, h8⟩ ⟨kind, h⟩
 ·have e1 : takesRs num kind = false := by
   unfold takesRs; simp; omega
  rw [e1]; simp [tabR]; omega
end Go.Ai.T

namespace Go.Ai.T
open Go Go.Proofs
set_option maxRecDepth 100000
set_option maxHeartbeats 4000000
theorem roomKs_sz : ∀ {l : List KV} {d r : Int}, -1 ≤ r → 0 ≤ roomKs l d r → (KV.szs l : Int) ≤ r - roomKs l d r
 | [], d, r, _, h => by rw [roomKs, KV.szs]; simp
 | x :: xs, d, r, hr, h => by
  rw [roomKs] at h ⊢
  split at h
  ·rename_i h0
   rw [if_pos h0, KV.szs]
   have hle := room_le.2 x d r hr
   have i2 := roomKs_sz (l := xs) (d := d) hle.1 h
   have h3 : 0 ≤ roomKV x d r := roomKs_pos h
   have i1 := room_sz.2 x d r hr h3
   omega
  ·omega
theorem roomS_sz {x : ScopeM} (h : 0 ≤ roomS x 12000) : x.sz ≤ 12000 := by
 unfold roomS at h
 rw [roomK_eq, if_neg (by omega)] at h
 have t1 := takeR_le (room := 12000) (n := x.name.length) (by omega) (by omega)
 have t2 := takeR_le (n := x.version.length) t1.1 (by omega)
 have t3 := takeR_le (n := x.unk.length) t2.1 (by omega)
 have k := roomKs_sz t3.1 h
 have h3 := roomKs_pos h
 have e3 := takeR_ge h3
 have e2 := takeR_ge (r := takeR 12000 x.name.length) (n := x.version.length) (by omega)
 have e1 := takeR_ge (r := 12000) (n := x.name.length) (by omega)
 unfold ScopeM.sz
 omega
theorem roomRs_sz {x : ResM} (h : 0 ≤ roomRs x 12000) : x.sz ≤ 12010 := by
 unfold roomRs at h
 rw [roomK_eq, if_neg (by omega)] at h
 have t3 := takeR_le (room := 12000) (n := x.unk.length) (by omega) (by omega)
 have k := roomKs_sz t3.1 h
 have h3 := roomKs_pos h
 have e3 := takeR_ge h3
 unfold ResM.sz
 omega
theorem _root_.Go.Ai.ScopeM.wf.len {x : ScopeM} (h : x.wf) : x.attrs.length ≤ maxStr := h.2.2.1
theorem _root_.Go.Ai.ScopeM.wf.ulen {x : ScopeM} (h : x.wf) : x.unk.length ≤ maxStr := h.2.2.2.2.2
theorem _root_.Go.Ai.ResM.wf.len {x : ResM} (h : x.wf) : x.attrs.length ≤ maxStr := h.1
theorem _root_.Go.Ai.ResM.wf.ulen {x : ResM} (h : x.wf) : x.unk.length ≤ maxStr := h.2.2.2
theorem zero_wfS : scope0.wf := by simp [ScopeM.wf, scope0, maxStr]
theorem zero_wfRs : res0.wf := by simp [ResM.wf, res0, maxStr]
end Go.Ai.T

namespace Go.Ai.T
open Go Go.Proofs
set_option maxRecDepth 100000
set_option maxHeartbeats 4000000
def ppFr (f : Nat) (id : Id) (num : Nat) (d : Int) (l : List KV) (i : Nat) : Fr := ((((((bot.set 16 (.int .i64 i)).set 15 (.int .i64 l.length)).set 14 (.slice (l.map encK) none)).set 4 (.fn f [])).set 3 (.int .i64 d)).set 1 (.int .i64 num)).set 0 (.ptr (77 :: id) 0)
theorem pp_loop {f : Nat} {num : Nat} (h1 : 1 ≤ num) (h2 : num ≤ 536870911) {d : Int} (hd1 : -9223372036854775808 ≤ d - 1) (hd : d ≤ 9223372036854775807) {l : List KV} (hn : l.length ≤ maxStr) (hw : ∀ x ∈ l, ∀ (q : Id) (h : Heap), callW E q f [.agg (encK x), .int .i64 (d - 1)] h = some (.tuple [.str (writeK x), .nili], dropFrom q 0 h)) :
  ∀ (t : List KV) (i : Nat) (o : Option (List UInt8)), l.drop i = t → i ≤ l.length → (o.getD []).length + (partsN num writeK t).length ≤ 549755813888 → ∃ K o', o'.getD [] = o.getD [] ++ partsN num writeK t ∧ ∀ (p id : Id) (_ : Apart p (77 :: id)) (c0 c : Nat) (h : Heap), c0 ≤ c → h (77 :: id) = some (bld (77 :: id) o) →
  iterW E 37 p [0, 1, 3, 4, 14, 15, 16] L_37_1 c0 (ppFr f id num d l i) c h =
   some (.exit 0, ppFr f id num d l l.length, c + K, upd (dropFrom p c0 h) (77 :: id) (bld (77 :: id) o')) := by
 intro t
 induction t with
 | nil =>
  intro i o hj hi hb
  have hlen : i = l.length := by have := drop_end hj; omega
  subst hlen
  refine ⟨0, o, by simp [partsN], fun p id a c0 c h hc hx => ?_⟩
  obtain ⟨f1, f2, f3, f4, f5, f6⟩ := a.facts
  have hlt' : ¬ ((l.length : Nat) : Int) < l.length := by omega
  unfold ppFr
  rw [rd_37_1]
  generalize hr : execW E 37 p _ _ _ _ = e
  simp -implicitDefEqProofs (maxSteps := 1000000) [Tryz.f37, Code.loopAt, Code.key] at hr
  subst hr
  rw [upd_id (h := dropFrom p c0 h) (by rw [f2, hx])]
  simp
 | cons x t ih =>
  intro i o hj hi hb
  obtain ⟨hlt, hbb, hbs⟩ := drop_facts hj
  have hlt' : (i : Int) < l.length := by omega
  have hw1 : IntKind.i64.wrap ((i : Int) + 1) = ((i + 1 : Nat) : Int) := by rw [wrap_succ hlt hn]; rfl
  have hwd : IntKind.i64.wrap (d - 1) = d - 1 := wrap_i64 hd1 (by omega)
  have hget? : (l.map encK)[i]? = some (encK x) := by simp [hbb]
  have hget : ∀ hl, (l.map encK)[i]'hl = encK x := fun hl => by rw [List.getElem?_eq_getElem hl] at hget?; exact Option.some.inj hget?
  have hgetl : ∀ hl, l[i]'hl = x := fun hl => by rw [List.getElem?_eq_getElem hl] at hbb; exact Option.some.inj hbb
  rw [partsN_cons, List.length_append] at hb
  have hbl := bytesB_len num (writeK x)
  obtain ⟨K, o', ho, gl⟩ := ih (i + 1) (some (o.getD [] ++ bytesB num (writeK x))) hbs (by omega) (by simp; omega)
  refine ⟨3 + K, o', by rw [ho, partsN_cons]; simp, fun p id a c0 c h hc hx => ?_⟩
  obtain ⟨f1, f2, f3, f4, f5, f6⟩ := a.facts
  have g := hw x (List.mem_of_getElem? hbb)
  have g2 := fun k h hh => xpart_ok (id := id) (o := o) h1 h2 (s := writeK x) (by omega) (by omega) (p := k :: p) (a.sub k) (h := h) hh
  have e := gl p id a c0 (c + 3) (upd (dropFrom p c0 h) (77 :: id) (bld (77 :: id) (some (o.getD [] ++ bytesB num (writeK x))))) (by omega) (by simp)
  obtain ⟨cs, hcs, hsh⟩ := flatK x
  rw [hcs] at g hget? hget
  obtain ⟨ky, hs', k0', s0', b0', n0', l0', m0', i0', u0', uu, rfl⟩ := hsh
  unfold ppFr at e ⊢
  rw [rd_37_1]
  generalize hr : execW E 37 p _ _ _ _ = ee
  simp -implicitDefEqProofs (maxSteps := 1000000) [-Int.natCast_add, Tryz.f37, Code.loopAt, Code.key, hx, f1, f2, f3, f4, f5, f6, hlt, hlt', hget?, hget, hgetl, hbb, hcs, hw1, hwd, g, g2] at hr
  subst hr
  simp [-Int.natCast_add]
  rw [show c + (3 + K) = c + 3 + K by omega]
  refine (iterW_congr rfl rfl (by omega) ?_).trans (e.trans (some5 rfl (by omega) ?_))
  all_goals simp -implicitDefEqProofs (disch := omega) only [f1, f3, own_du, drop_drop_cons, drop_upd, drop_drop, drop_drop_self, upd_upd]
theorem parts_ok {f : Nat} {num : Nat} (h1 : 1 ≤ num) (h2 : num ≤ 536870911) {d : Int} (hd1 : -9223372036854775808 ≤ d - 1) (hd : d ≤ 9223372036854775807) {l : List KV} (hn : l.length ≤ maxStr) (hw : ∀ x ∈ l, ∀ (q : Id) (h : Heap), callW E q f [.agg (encK x), .int .i64 (d - 1)] h = some (.tuple [.str (writeK x), .nili], dropFrom q 0 h))
  {o : Option (List UInt8)} (hb : (o.getD []).length + (partsN num writeK l).length ≤ 549755813888) : ∃ o', o'.getD [] = o.getD [] ++ partsN num writeK l ∧ ∀ (p id : Id) (_ : Apart p (77 :: id)) (h : Heap), h (77 :: id) = some (bld (77 :: id) o) →
  callW E p 37 [.ptr (77 :: id) 0, .int .i64 num, .slice (l.map encK) none, .int .i64 d, .fn f []] h = some (.tuple [], upd (dropFrom p 0 h) (77 :: id) (bld (77 :: id) o')) := by
 obtain ⟨K, o', ho, gl⟩ := pp_loop h1 h2 hd1 hd hn hw l 0 o rfl (Nat.zero_le _) hb
 refine ⟨o', ho, fun p id a h hx => ?_⟩
 obtain ⟨f1, f2, f3, f4, f5, f6⟩ := a.facts
 have g := fun h => gl p id a 0 0 h (Nat.le_refl _)
 simp only [ppFr, nat0] at g
 rw [eq_37]
 simp -implicitDefEqProofs (maxSteps := 1000000) [Tryz.f37, Code.hide, Code.key, g, hx, f1, f2]
theorem orW_text {o : Option (List UInt8)} (num : Nat) (s : List UInt8) : (orW o (!s.isEmpty) (bytesB num s)).getD [] = o.getD [] ++ textB num s := by
 cases s <;> simp [orW, textB]
theorem orW_var {o : Option (List UInt8)} (num n : Nat) : (orW o (decide (0 < n)) (numB num n)).getD [] = o.getD [] ++ varB num n := by
 by_cases h : n = 0
 ·subst h; simp [orW, varB]
 ·have : 0 < n := by omega
  simp [orW, varB, h, this]
theorem textB_len (num : Nat) (s : List UInt8) : s.length ≤ (textB num s).length := by
 unfold textB; split
 ·rename_i h; subst h; simp
 ·have := bytesB_len num s; omega
theorem cmayS_ok {x : ScopeM} (hw : x.wf) (hs : x.sz ≤ 549755813888) {d : Int} (hd1 : -9223372036854775808 ≤ d) (hd : d ≤ 9223372036854775807) (p : Id) (h : Heap) : callW E p 57 [.agg (encScope x), .int .i64 d] h = some (.bool (mayS x d), dropFrom p 0 h) := by
 obtain ⟨n, v, l, dr, u⟩ := x
 obtain ⟨hn, hv, hl, hwl, hdr, hu⟩ := hw
 dsimp only at hn hv hl hwl hdr hu
 unfold ScopeM.sz at hs
 dsimp only at hs
 have g1 := fun q h => uvalid_ok hn q h
 have g2 := fun q h => uvalid_ok hv q h
 change ∀ q h, callW E q 90 [.str n] h = some (.bool (textOk n), dropFrom q 0 h) at g1
 change ∀ q h, callW E q 90 [.str v] h = some (.bool (textOk v), dropFrom q 0 h) at g2
 have g4 := fun q h => rest_ok (s := u) (by omega) hd stakes_ok q h
 unfold mayS encScope
 dsimp only
 rw [eq_57]
 by_cases h0 : d < 0
 ·have h0' : ¬ 0 ≤ d := by omega
  have e : decide (0 ≤ d) = false := by simp; omega
  rw [e]
  simp -implicitDefEqProofs (maxSteps := 1000000) [Tryz.f57, Code.key, h0, h0']
 have h0' : 0 ≤ d := by omega
 have e : decide (0 ≤ d) = true := by simp; omega
 have hwd : IntKind.i64.wrap (d - 1) = d - 1 := wrap_i64 (by omega) (by omega)
 have g3 := fun q h => mayKs_ok hl hwl (fun a ha => by have := KV.szs_mem ha; omega) (d := d - 1) (by omega) (by omega) q h
 rw [e]
 generalize textOk n = t1 at *
 generalize textOk v = t2 at *
 generalize mayKs l (d - 1) = t3 at *
 generalize restE takesS u d = t4 at *
 cases t1 with
 | false => simp -implicitDefEqProofs (maxSteps := 1000000) [Tryz.f57, Code.key, h0, h0', g1]
 | true =>
  cases t2 with
  | false =>
   by_cases env : n = v
   ·subst env; have := (g1 [] (fun _ => none)).symm.trans (g2 [] (fun _ => none)); simp at this
   ·simp -implicitDefEqProofs (maxSteps := 1000000) [Tryz.f57, Code.key, h0, h0', g1, g2]
  | true =>
   cases t3 with
   | false => simp -implicitDefEqProofs (maxSteps := 1000000) [Tryz.f57, Code.key, h0, h0', g1, g2, g3, hwd]
   | true => simp -implicitDefEqProofs (maxSteps := 1000000) [Tryz.f57, Code.key, h0, h0', g1, g2, g3, g4, hwd]
theorem cmayRs_ok {x : ResM} (hw : x.wf) (hs : x.sz ≤ 549755813888) {d : Int} (hd1 : -9223372036854775808 ≤ d) (hd : d ≤ 9223372036854775807) (p : Id) (h : Heap) : callW E p 17 [.agg (encRes x), .int .i64 d] h = some (.bool (mayRs x d), dropFrom p 0 h) := by
 obtain ⟨l, dr, u⟩ := x
 obtain ⟨hl, hwl, hdr, hu⟩ := hw
 dsimp only at hl hwl hdr hu
 unfold ResM.sz at hs
 dsimp only at hs
 have g4 := fun q h => rest_ok (s := u) (by omega) hd stakesR_ok q h
 unfold mayRs encRes
 dsimp only
 rw [eq_17]
 by_cases h0 : d < 0
 ·have h0' : ¬ 0 ≤ d := by omega
  have e : decide (0 ≤ d) = false := by simp; omega
  rw [e]
  simp -implicitDefEqProofs (maxSteps := 1000000) [Tryz.f17, Code.key, h0, h0']
 have h0' : 0 ≤ d := by omega
 have e : decide (0 ≤ d) = true := by simp; omega
 have hwd : IntKind.i64.wrap (d - 1) = d - 1 := wrap_i64 (by omega) (by omega)
 have g3 := fun q h => mayKs_ok hl hwl (fun a ha => by have := KV.szs_mem ha; omega) (d := d - 1) (by omega) (by omega) q h
 rw [e]
 generalize mayKs l (d - 1) = t3 at *
 generalize restE takesRs u d = t4 at *
 cases t3 with
 | false => simp -implicitDefEqProofs (maxSteps := 1000000) [Tryz.f17, Code.key, h0, h0', g3, hwd]
 | true => simp -implicitDefEqProofs (maxSteps := 1000000) [Tryz.f17, Code.key, h0, h0', g3, g4, hwd]
theorem marK_all {l : List KV} {d : Int} (hd : d ≤ 9223372036854775807) (hw : ∀ x ∈ l, x.wf) (hs : KV.szs l ≤ 549755813888) (hm : mayKs l (d - 1) = true) : ∀ x ∈ l, ∀ (q : Id) (h : Heap), callW E q 38 [.agg (encK x), .int .i64 (d - 1)] h = some (.tuple [.str (writeK x), .nili], dropFrom q 0 h) := by
 intro x hx q h
 have := marK_ok (hw x hx) (by have := KV.szs_mem hx; omega) (d := d - 1) (by omega) q h
 rw [mayKs_all, List.all_eq_true] at hm
 rw [hm x hx] at this
 simpa only [marE, if_true, encO_none] using this
theorem cmarS_ok {x : ScopeM} (hw : x.wf) (hs : x.sz ≤ 549755813000) {d : Int} (hd1 : -9223372036854775808 ≤ d) (hd : d ≤ 9223372036854775807) (p : Id) (h : Heap) :
  callW E p 26 [.agg (encScope x), .int .i64 d] h = some (.tuple [.str (marE (mayS x d) (writeS x)).1, encO (marE (mayS x d) (writeS x)).2], dropFrom p 0 h) := by
 have g := fun q h => cmayS_ok hw (by omega) hd1 hd q h
 have hlen := writeS_le hw (by omega)
 obtain ⟨n, v, l, dr, u⟩ := x
 obtain ⟨hn, hv, hl, hwl, hdr, hu⟩ := hw
 dsimp only at hn hv hl hwl hdr hu
 unfold ScopeM.sz at hs hlen
 dsimp only at hs hlen
 unfold encScope at g ⊢
 dsimp only at g ⊢
 cases hm : mayS ⟨n, v, l, dr, u⟩ d with
 | false =>
  rw [hm] at g
  rw [eq_26]
  simp -implicitDefEqProofs (maxSteps := 1000000) [Tryz.f26, Code.key, g, marE, encE_code]
 | true =>
  rw [hm] at g
  unfold mayS at hm
  simp only [Bool.and_eq_true, decide_eq_true_eq] at hm
  obtain ⟨⟨⟨⟨h0, _⟩, _⟩, hmk⟩, _⟩ := hm
  unfold writeS at hlen ⊢
  simp only [List.length_append] at hlen
  have b1 := bytesB_le (num := 1) (by omega) (s := n) (by omega)
  have b2 := bytesB_le (num := 2) (by omega) (s := v) (by omega)
  have b4 := numB_le (num := 4) (by omega) (n := dr) (by omega)
  have hbn : ∀ id, bld id none = [.nilp, .nils] := fun _ => rfl
  have hcv : IntKind.u64.wrap (dr : Int) = dr := wrap_u64 (by omega) (by omega)
  have g1 := fun k h (hne : 2 ≠ k) hh => xtext_ok (id := 2 :: p) (o := none) (num := 1) (by omega) (by omega) (s := n) (by omega) (by simp; omega) (p := k :: p) (Apart.own hne) (h := h) hh
  have ho1 : (orW none (!n.isEmpty) (bytesB 1 n)).getD [] = textB 1 n := by rw [orW_text]; rfl
  generalize orW none (!n.isEmpty) (bytesB 1 n) = o1 at *
  have g2 := fun k h (hne : 2 ≠ k) hh => xtext_ok (id := 2 :: p) (o := o1) (num := 2) (by omega) (by omega) (s := v) (by omega) (by rw [ho1]; omega) (p := k :: p) (Apart.own hne) (h := h) hh
  have ho2 : (orW o1 (!v.isEmpty) (bytesB 2 v)).getD [] = textB 1 n ++ textB 2 v := by rw [orW_text, ho1]
  generalize orW o1 (!v.isEmpty) (bytesB 2 v) = o2 at *
  obtain ⟨o3, ho3, g3⟩ := parts_ok (f := 38) (num := 3) (by omega) (by omega) (d := d) (by omega) hd hl (marK_all hd hwl (by omega) hmk) (o := o2) (by rw [ho2, List.length_append]; omega)
  have g3 := fun k h (hne : 2 ≠ k) hh => g3 (k :: p) (2 :: p) (Apart.own hne) h hh
  rw [ho2] at ho3
  have g4 := fun k h (hne : 2 ≠ k) hh => xvar_ok (id := 2 :: p) (o := o3) (num := 4) (n := dr) (by omega) (by omega) (by omega) (by rw [ho3]; simp only [List.length_append]; omega) (p := k :: p) (Apart.own hne) (h := h) hh
  have ho4 : (orW o3 (decide (0 < dr)) (numB 4 dr)).getD [] = textB 1 n ++ textB 2 v ++ partsN 3 writeK l ++ varB 4 dr := by rw [orW_var, ho3]
  generalize orW o3 (decide (0 < dr)) (numB 4 dr) = o4 at *
  have g5 := fun k h (hne : 2 ≠ k) hh => xraw_ok (id := 2 :: p) (o := o4) (s := u) (by rw [ho4]; simp only [List.length_append]; omega) (p := k :: p) (Apart.own hne) (h := h) hh
  have g6 := fun k h (hne : 2 ≠ k) hh => xstring_ok (id := 77 :: 2 :: p) (o := some (o4.getD [] ++ u)) (by rw [Option.getD_some, List.length_append, ho4]; simp only [List.length_append]; unfold maxStr; omega) (p := k :: p) (Apart.own hne) (h := h) hh
  simp only [nl1, nl2, nl3, nl4, hbn, Option.getD_some, ho4] at g1 g2 g3 g4 g5 g6
  rw [eq_26]
  simp -implicitDefEqProofs (maxSteps := 1000000) [Tryz.f26, Code.key, g, g1, g2, g3, g4, g5, g6, hcv, marE]
theorem cmarRs_ok {x : ResM} (hw : x.wf) (hs : x.sz ≤ 549755813000) {d : Int} (hd1 : -9223372036854775808 ≤ d) (hd : d ≤ 9223372036854775807) (p : Id) (h : Heap) :
  callW E p 16 [.agg (encRes x), .int .i64 d] h = some (.tuple [.str (marE (mayRs x d) (writeRs x)).1, encO (marE (mayRs x d) (writeRs x)).2], dropFrom p 0 h) := by
 have g := fun q h => cmayRs_ok hw (by omega) hd1 hd q h
 have hlen := writeRs_le hw (by omega)
 obtain ⟨l, dr, u⟩ := x
 obtain ⟨hl, hwl, hdr, hu⟩ := hw
 dsimp only at hl hwl hdr hu
 unfold ResM.sz at hs hlen
 dsimp only at hs hlen
 unfold encRes at g ⊢
 dsimp only at g ⊢
 cases hm : mayRs ⟨l, dr, u⟩ d with
 | false =>
  rw [hm] at g
  rw [eq_16]
  simp -implicitDefEqProofs (maxSteps := 1000000) [Tryz.f16, Code.key, g, marE, encE_code]
 | true =>
  rw [hm] at g
  unfold mayRs at hm
  simp only [Bool.and_eq_true, decide_eq_true_eq] at hm
  obtain ⟨⟨h0, hmk⟩, _⟩ := hm
  unfold writeRs at hlen ⊢
  simp only [List.length_append] at hlen
  have b4 := numB_le (num := 2) (by omega) (n := dr) (by omega)
  have hbn : ∀ id, bld id none = [.nilp, .nils] := fun _ => rfl
  have hcv : IntKind.u64.wrap (dr : Int) = dr := wrap_u64 (by omega) (by omega)
  obtain ⟨o3, ho3, g3⟩ := parts_ok (f := 38) (num := 1) (by omega) (by omega) (d := d) (by omega) hd hl (marK_all hd hwl (by omega) hmk) (o := none) (by simp; omega)
  have g3 := fun k h (hne : 2 ≠ k) hh => g3 (k :: p) (2 :: p) (Apart.own hne) h hh
  simp only [Option.getD_none, List.nil_append] at ho3
  have g4 := fun k h (hne : 2 ≠ k) hh => xvar_ok (id := 2 :: p) (o := o3) (num := 2) (n := dr) (by omega) (by omega) (by omega) (by rw [ho3]; omega) (p := k :: p) (Apart.own hne) (h := h) hh
  have ho4 : (orW o3 (decide (0 < dr)) (numB 2 dr)).getD [] = partsN 1 writeK l ++ varB 2 dr := by rw [orW_var, ho3]
  generalize orW o3 (decide (0 < dr)) (numB 2 dr) = o4 at *
  have g5 := fun k h (hne : 2 ≠ k) hh => xraw_ok (id := 2 :: p) (o := o4) (s := u) (by rw [ho4]; simp only [List.length_append]; omega) (p := k :: p) (Apart.own hne) (h := h) hh
  have g6 := fun k h (hne : 2 ≠ k) hh => xstring_ok (id := 77 :: 2 :: p) (o := some (o4.getD [] ++ u)) (by rw [Option.getD_some, List.length_append, ho4]; simp only [List.length_append]; unfold maxStr; omega) (p := k :: p) (Apart.own hne) (h := h) hh
  simp only [nl1, nl2, hbn, Option.getD_some, ho4] at g3 g4 g5 g6
  rw [eq_16]
  simp -implicitDefEqProofs (maxSteps := 1000000) [Tryz.f16, Code.key, g, g3, g4, g5, g6, hcv, marE]
theorem csizeRs_ok {x : ResM} (hw : x.wf) (hs : x.sz ≤ 549755813000) (p : Id) (h : Heap) : callW E p 22 [.agg (encRes x)] h = some (.int .i64 (marE (mayRs x 1073741824) (writeRs x)).1.length, dropFrom p 0 h) := by
 have g := fun q h => cmarRs_ok hw hs (d := 1073741824) (by omega) (by omega) q h
 generalize marE (mayRs x 1073741824) (writeRs x) = m at *
 obtain ⟨w, e⟩ := m
 simp only [encRes] at g ⊢
 rw [eq_22]
 simp -implicitDefEqProofs (maxSteps := 1000000) [Tryz.f22, Code.key, g]
def zScope : List A := [.str [], .str [], .nils, .int .u32 0, .str []]
theorem cunmS_ok {s : List UInt8} (hb : s.length ≤ 549755813888) {d : Int} (hd : d ≤ 9223372036854775807) (p : Id) (h : Heap) :
  callW E p 27 [.str s, .int .i64 d] h = some (.tuple [.agg (encScope (readS s d).1), encO (readS s d).2], dropFrom p 0 h) := by
 obtain ⟨hf1, hf2, hf3, hf4⟩ := readE_facts (s := s) (d := d) (t := takesS)
 obtain ⟨H, g, gH, gD⟩ := mread_ok (s := s) (by omega) hd (t := takesS) stakes_ok (1 :: p) (upd h (52 :: 0 :: p) zScope)
 have hsh : Short 1099511627776 (readE s d takesS).recs := fun r hr => Nat.le_trans (hf2 r hr) (by omega)
 have hr : ∀ r ∈ (readE s d takesS).recs, ∀ (q : Id) (h : Heap), callW E q 35 [.str r.s, .int .i64 (d - 1)] h = some (.tuple [.agg (encK (readK r.s (d - 1)).1), encO (readK r.s (d - 1)).2], dropFrom q 0 h) :=
  fun r hr q h => (unm_all _ (d - 1) (Nat.le_refl _) (by omega) r.s (by have := hf2 r hr; omega)).2 q h
 have g2 := fun k (hk : 1 ≠ k) h hh => text_ok (num := 1) (e0 := (readE s d takesS).err) (u := (readE s d takesS).unk) (d := d) (en := s.length) (by omega) hsh (p := k :: p) (id := 71 :: 0 :: 1 :: p) (Apart.own2 hk) (h := h) hh
 have g3 := fun k (hk : 1 ≠ k) h hh => text_ok (num := 2) (e0 := checkO s.length 1 (readE s d takesS).err (readE s d takesS).recs) (u := (readE s d takesS).unk) (d := d) (en := s.length) (by omega) hsh (p := k :: p) (id := 71 :: 0 :: 1 :: p) (Apart.own2 hk) (h := h) hh
 have g4 := fun k (hk : 1 ≠ k) h hh => listK_ok (f := 35) (rd := fun t => readK t (d - 1)) (num := 3) hf3 hd (by omega) hr (e0 := checkO s.length 2 (checkO s.length 1 (readE s d takesS).err (readE s d takesS).recs) (readE s d takesS).recs) (u := .str (readE s d takesS).unk) (en := s.length) (p := k :: p) (id := 71 :: 0 :: 1 :: p) (Apart.own2 hk) (h := h) hh
 have gr : H (52 :: 0 :: p) = some zScope := by
  have e1 := congrFun gD (52 :: 0 :: p)
  simpa using e1
 have gD' : dropFrom p 0 H = dropFrom p 0 h := by
  have e1 := congrArg (dropFrom p 0) gD
  simpa using e1
 have ne1 : ∀ t k, ¬ (t :: k :: p) = (71 :: 0 :: 1 :: p) := fun t k e => by have := congrArg List.length e; simp at this
 have ux : ∀ (h : Heap) (cs : List A) (t k : Nat), upd h (71 :: 0 :: 1 :: p) cs (t :: k :: p) = h (t :: k :: p) := fun h cs t k => by simp only [upd, if_neg (ne1 t k)]
 have ux2 : ∀ (h : Heap) (cs : List A) (t k : Nat), upd h (t :: k :: p) cs (71 :: 0 :: 1 :: p) = h (71 :: 0 :: 1 :: p) := fun h cs t k => by simp only [upd, if_neg (Ne.symm (ne1 t k))]
 have udr : ∀ (k : Nat) (h : Heap), 1 ≠ k → dropFrom (k :: p) 0 h (71 :: 0 :: 1 :: p) = h (71 :: 0 :: 1 :: p) := fun k h hk => drop_other ((Apart.own2 hk).at_ 0)
 have hw32 := wrap_u32_nat (lastR 4 (readE s d takesS).recs).n
 unfold readS
 dsimp only
 generalize hy : listR (fun t => readK t (d - 1)) s.length 3 (checkO s.length 2 (checkO s.length 1 (readE s d takesS).err (readE s d takesS).recs) (readE s d takesS).recs) (readE s d takesS).recs = y at *
 have g5 := fun k (hk : 1 ≠ k) h hh => mfixed_ok (num := 4) (rs := (readE s d takesS).recs) (by omega) (e0 := encO y.2) (u := .str (readE s d takesS).unk) (dd := .int .i64 d) (en := .int .i64 s.length) (p := k :: p) (id := 71 :: 0 :: 1 :: p) (Apart.own2 hk) (h := h) hh
 generalize checkO s.length 2 (checkO s.length 1 (readE s d takesS).err (readE s d takesS).recs) (readE s d takesS).recs = e2 at *
 generalize checkO s.length 1 (readE s d takesS).err (readE s d takesS).recs = e1 at *
 generalize readE s d takesS = m at *
 obtain ⟨yl, ye⟩ := y
 simp only [mrdM, mrd, nl1, nl2, nl3, nl4, zScope] at g gH g2 g3 g4 g5 gr ⊢
 rw [eq_27]
 cases ye with
 | none =>
  simp only [encO_none, orNone, encScope] at *
  simp -implicitDefEqProofs (maxSteps := 1000000) [Tryz.f27, Code.hide, Code.key, g, gH, gr, ux, ux2, udr, g2, g3, g4, g5, hw32, drop_upd_under, under2, gD', sameAt, beqL_refl]
 | some e =>
  simp only [encO_some, orNone, encScope, scope0] at *
  simp -implicitDefEqProofs (maxSteps := 1000000) [Tryz.f27, Code.hide, Code.key, g, gH, gr, ux, ux2, udr, g2, g3, g4, g5, hw32, drop_upd_under, under2, gD', sameAt, beqL_refl]
def zRes : List A := [.nils, .int .u32 0, .str []]
theorem cunmRs_ok {s : List UInt8} (hb : s.length ≤ 549755813888) {d : Int} (hd : d ≤ 9223372036854775807) (p : Id) (h : Heap) :
  callW E p 15 [.str s, .int .i64 d] h = some (.tuple [.agg (encRes (readRs s d).1), encO (readRs s d).2], dropFrom p 0 h) := by
 obtain ⟨hf1, hf2, hf3, hf4⟩ := readE_facts (s := s) (d := d) (t := takesRs)
 obtain ⟨H, g, gH, gD⟩ := mread_ok (s := s) (by omega) hd (t := takesRs) stakesR_ok (1 :: p) (upd h (25 :: 0 :: p) zRes)
 have hr : ∀ r ∈ (readE s d takesRs).recs, ∀ (q : Id) (h : Heap), callW E q 35 [.str r.s, .int .i64 (d - 1)] h = some (.tuple [.agg (encK (readK r.s (d - 1)).1), encO (readK r.s (d - 1)).2], dropFrom q 0 h) :=
  fun r hr q h => (unm_all _ (d - 1) (Nat.le_refl _) (by omega) r.s (by have := hf2 r hr; omega)).2 q h
 have g4 := fun k (hk : 1 ≠ k) h hh => listK_ok (f := 35) (rd := fun t => readK t (d - 1)) (num := 1) hf3 hd (by omega) hr (e0 := (readE s d takesRs).err) (u := .str (readE s d takesRs).unk) (en := s.length) (p := k :: p) (id := 71 :: 0 :: 1 :: p) (Apart.own2 hk) (h := h) hh
 have gr : H (25 :: 0 :: p) = some zRes := by
  have e1 := congrFun gD (25 :: 0 :: p)
  simpa using e1
 have gD' : dropFrom p 0 H = dropFrom p 0 h := by
  have e1 := congrArg (dropFrom p 0) gD
  simpa using e1
 have ne1 : ∀ t k, ¬ (t :: k :: p) = (71 :: 0 :: 1 :: p) := fun t k e => by have := congrArg List.length e; simp at this
 have ux : ∀ (h : Heap) (cs : List A) (t k : Nat), upd h (71 :: 0 :: 1 :: p) cs (t :: k :: p) = h (t :: k :: p) := fun h cs t k => by simp only [upd, if_neg (ne1 t k)]
 have ux2 : ∀ (h : Heap) (cs : List A) (t k : Nat), upd h (t :: k :: p) cs (71 :: 0 :: 1 :: p) = h (71 :: 0 :: 1 :: p) := fun h cs t k => by simp only [upd, if_neg (Ne.symm (ne1 t k))]
 have udr : ∀ (k : Nat) (h : Heap), 1 ≠ k → dropFrom (k :: p) 0 h (71 :: 0 :: 1 :: p) = h (71 :: 0 :: 1 :: p) := fun k h hk => drop_other ((Apart.own2 hk).at_ 0)
 have hw32 := wrap_u32_nat (lastR 2 (readE s d takesRs).recs).n
 unfold readRs
 dsimp only
 generalize hy : listR (fun t => readK t (d - 1)) s.length 1 (readE s d takesRs).err (readE s d takesRs).recs = y at *
 have g5 := fun k (hk : 1 ≠ k) h hh => mfixed_ok (num := 2) (rs := (readE s d takesRs).recs) (by omega) (e0 := encO y.2) (u := .str (readE s d takesRs).unk) (dd := .int .i64 d) (en := .int .i64 s.length) (p := k :: p) (id := 71 :: 0 :: 1 :: p) (Apart.own2 hk) (h := h) hh
 generalize readE s d takesRs = m at *
 obtain ⟨yl, ye⟩ := y
 simp only [mrdM, mrd, nl1, nl2, zRes] at g gH g4 g5 gr ⊢
 rw [eq_15]
 cases ye with
 | none =>
  simp only [encO_none, orNone, encRes] at *
  simp -implicitDefEqProofs (maxSteps := 1000000) [Tryz.f15, Code.hide, Code.key, g, gH, gr, ux, ux2, udr, g4, g5, hw32, drop_upd_under, under2, gD', sameAt, beqL_refl]
 | some e =>
  simp only [encO_some, orNone, encRes, res0] at *
  simp -implicitDefEqProofs (maxSteps := 1000000) [Tryz.f15, Code.hide, Code.key, g, gH, gr, ux, ux2, udr, g4, g5, hw32, drop_upd_under, under2, gD', sameAt, beqL_refl]
def scA : ScopeM := ⟨[97], [], [], 0, []⟩
theorem scA_w : writeS scA = [10, 1, 97] := by
 have h1 : putV 10 = [10] := putV_small (by omega)
 have h2 : putV 1 = [1] := putV_small (by omega)
 simp [writeS, scA, textB, partsN, varB, bytesB, tagB, h1, h2]
theorem scA_wf : scA.wf := by simp [scA, ScopeM.wf, maxStr]
theorem scA_may : mayS scA 0 = true := by
 have h1 : textOk [97] = true := by decide +kernel
 have h2 : textOk [] = true := textOk_nil
 simp [scA, mayS, h1, h2, mayKs, restE_nil]
theorem scA_r : readS [10, 1, 97] 0 = (scA, none) := by
 have := kitS_wr.read kitS_ok scA_may scA_wf (by rw [scA_w]; simp)
 rw [scA_w] at this
 exact this
def rsD : ResM := ⟨[], 1, []⟩
theorem rsD_w : writeRs rsD = [16, 1] := by
 have h1 : putV 16 = [16] := putV_small (by omega)
 have h2 : putV 1 = [1] := putV_small (by omega)
 simp [writeRs, rsD, partsN, varB, numB, tagB, h1, h2]
theorem rsD_wf : rsD.wf := by simp [rsD, ResM.wf, maxStr]
theorem rsD_may : mayRs rsD 0 = true := by
 simp [rsD, mayRs, mayKs, restE_nil]
theorem first10_ok (p : Id) (h : Heap) : callW E p 11 [] h = some (.bool true, dropFrom p 0 h) := by
 have g1 := fun q h => cmarS_ok scA_wf (by simp [scA, ScopeM.sz, KV.szs]) (d := 0) (by omega) (by omega) q h
 have g2 := fun q h => cunmS_ok (s := [10, 1, 97]) (by simp) (d := 0) (by omega) q h
 have g3 := fun q h => cmarRs_ok rsD_wf (by simp [rsD, ResM.sz, KV.szs]) (d := 0) (by omega) (by omega) q h
 rw [scA_may, scA_w] at g1
 rw [scA_r] at g2
 rw [rsD_may, rsD_w] at g3
 simp only [marE, if_true, scA, rsD, encScope, encRes, List.map_nil, encO_none, nat0, nl1] at g1 g2 g3
 rw [eq_11]
 simp -implicitDefEqProofs (maxSteps := 1000000) [Tryz.f11, Code.key, g1, g2, g3]
end Go.Ai.T

