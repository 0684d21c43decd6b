/- Part KQ of the proof that a law of this program answers yes at every input: no conditions beyond the given statement. -/
import Derived.Test.YtgionjiabklccaaGreatDoorKE
import Derived.Test.YtgionjiabklccaaGreatDoorKP
import Derived.Test.YtgionjiabklccaaGreatDoorKH
import Derived.Test.YtgionjiabklccaaGreatDoorKI
import Derived.Test.YtgionjiabklccaaGreatDoorKG
set_option linter.unusedSimpArgs false
set_option linter.unusedVariables false
set_option linter.all false
namespace Go.Ai.T
open Go Go.Proofs
set_option maxRecDepth 100000
set_option maxHeartbeats 4000000
theorem flatQ (x : Quant) : ∃ cs, encQ x = cs ∧ ∃ q v u, cs = [.int .u64 q, .int .u64 v, .str u] := ⟨_, rfl, _, _, _, rfl⟩
@[simp] theorem encQ_len (x : Quant) : (encQ x).length = 3 := rfl
@[simp] theorem encQ_weak (x : Quant) : (encQ x).map A.weak1 = encQ x := rfl
@[simp] theorem encQ_own (x : Quant) : (encQ x).map A.noOwn1 = encQ x := rfl
@[simp] theorem encQ_take (x : Quant) : (encQ x).take 3 = encQ x := rfl
theorem partQ_ok {f : Nat} {s : List UInt8} {d : Int} (hd0 : 0 ≤ d) (hd : d ≤ 9223372036854775807) {x : Quant} {e1 : Option Err} (hread : ∀ (q : Id) (h : Heap), callW E q f [.str s, .int .i64 (d - 1)] h = some (.tuple [.agg (encQ x), encO e1], dropFrom q 0 h))
  {e0 : Option Err} {u l : A} {en num : Nat} {p id : Id} (a : Apart p id) {h : Heap} (hh : h id = some [encO e0, u, .int .i64 d, .int .i64 en, l]) :
  callW E p 77 [.ptr id 0, .int .i64 num, .str s, .fn f []] h = some (.agg (encQ x), upd (dropFrom p 0 h) id [encO (failO en num e0 e1), u, .int .i64 d, .int .i64 en, l]) := by
 obtain ⟨f1, f2, f3, f4, f5, f6⟩ := a.facts
 have hw : IntKind.i64.wrap (d - 1) = d - 1 := wrap_i64 (by omega) (by omega)
 have g := hread
 have g2 := fun k h (hh : h id = some [encO e0, u, .int .i64 d, .int .i64 en, l]) => mfails_ok (e0 := e0) (e1 := e1) (num := num) (p := k :: p) (a.sub k) (h := h) hh
 obtain ⟨cs, hcs, hst⟩ := flatQ x
 rw [hcs] at g ⊢
 obtain ⟨q, v, uu, rfl⟩ := hst
 rw [eq_77]
 simp -implicitDefEqProofs (maxSteps := 1000000) [Tryz.f77, Code.hide, Code.key, hh, f1, f2, f3, f4, f5, f6, hw, g, g2]
def listQFr (id : Id) (f num : Nat) (xs : List Quant) (rs : List Rec) (i : Nat) : Fr := ((((((bot.set 15 (.int .i64 i)).set 14 (.int .i64 rs.length)).set 13 (.slice (recsA rs) none)).set 7 (growing (52, 3) (xs.map encQ))).set 2 (.fn f [])).set 1 (.int .i64 num)).set 0 (.ptr id 0)
theorem listQ_loop {f : Nat} {d : Int} {rs : List Rec} (hd0 : rs ≠ [] → 0 ≤ d) (hd : d ≤ 9223372036854775807) {rd : List UInt8 → Quant × Option Err} {u l : A} {en num : Nat} (hn : rs.length ≤ 549755813888)
  (hread : ∀ r ∈ rs, ∀ (q : Id) (h : Heap), callW E q f [.str r.s, .int .i64 (d - 1)] h = some (.tuple [.agg (encQ (rd r.s).1), encO (rd r.s).2], dropFrom q 0 h)) :
  ∀ (rest : List Rec) (i : Nat) (e0 : Option Err) (xs : List Quant), rs.drop i = rest → i ≤ rs.length → xs.length ≤ i → ∃ k, ∀ (p id : Id) (a : Apart p id) (c0 c : Nat) (h : Heap), c0 ≤ c → h id = some [encO e0, u, .int .i64 d, .int .i64 en, l] →
  iterW E 31 p [0, 1, 2, 7, 13, 14, 15] L_31_3 c0 (listQFr id f num xs rs i) c h =
   some (.exit 0, listQFr id f num (xs ++ (listR rd en num e0 rest).1) rs rs.length, c + k, upd (dropFrom p c0 h) id [encO (listR rd en num e0 rest).2, u, .int .i64 d, .int .i64 en, l]) := by
 intro rest
 induction rest with
 | nil =>
  intro i e0 xs hj hi hx
  refine ⟨0, fun p id a c0 c h hc hh => ?_⟩
  obtain ⟨f1, f2, f3, f4, f5, f6⟩ := a.facts
  have hge := drop_end hj
  have hlen : i = rs.length := by omega
  subst hlen
  have hlt' : ¬ ((rs.length : Nat) : Int) < rs.length := by omega
  unfold listQFr
  rw [rd_31_3]
  generalize hr : execW E 31 p _ _ _ _ = e
  simp -implicitDefEqProofs (maxSteps := 1000000) [Tryz.f31, Code.loopAt, Code.key, hlt'] at hr
  subst hr
  simp only [listR, List.append_nil]
  rw [upd_id (h := dropFrom p c0 h) (by rw [f2, hh])]
  simp
 | cons r rest ih =>
  intro i e0 xs hj hi hx
  obtain ⟨hlt, hbb, hbs⟩ := drop_facts hj
  have hlt' : (i : Int) < rs.length := by omega
  have hw : IntKind.i64.wrap ((i : Int) + 1) = ((i + 1 : Nat) : Int) := by rw [wrap_i64 (by omega) (by omega)]; rfl
  have hrl : (recsA rs).length = rs.length := by simp [recsA]
  have hget? : (recsA rs)[i]? = some (recCells r) := by simp [recsA, hbb]
  have hget : ∀ hl, (recsA rs)[i]'hl = recCells r := fun hl => by rw [List.getElem?_eq_getElem hl] at hget?; exact Option.some.inj hget?
  have hl1 : (xs.map encQ).length = xs.length := by simp
  have hmax : xs.length + 1 ≤ maxStr := by unfold maxStr; omega
  have hmax2 : (xs.length + 1) * 32 ≤ 140737488355328 := by omega
  by_cases hnum : r.num = num
  ·obtain ⟨k, gl⟩ := ih (i + 1) (failO en num e0 (rd r.s).2) (xs ++ [(rd r.s).1]) hbs (by omega) (by simp; omega)
   refine ⟨2 + k, fun p id a c0 c h hc hh => ?_⟩
   obtain ⟨f1, f2, f3, f4, f5, f6⟩ := a.facts
   have hnum' : (r.num : Int) = num := by omega
   have g := fun k h (hh : h id = some [encO e0, u, .int .i64 d, .int .i64 en, l]) => partQ_ok (num := num) (hd0 (by intro e; rw [e] at hbb; simp at hbb)) hd (hread r (List.mem_of_getElem? hbb)) (a.sub k) (h := h) hh
   have e := gl p id a c0 (c + 2) (upd (dropFrom p c0 h) id [encO (failO en num e0 (rd r.s).2), u, .int .i64 d, .int .i64 en, l]) (by omega) (by simp)
   rw [f1, drop_drop_self, upd_upd] at e
   have hst : listR rd en num e0 (r :: rest) = ((rd r.s).1 :: (listR rd en num (failO en num e0 (rd r.s).2) rest).1, (listR rd en num (failO en num e0 (rd r.s).2) rest).2) := by rw [listR, if_pos hnum]
   rw [hst]
   unfold listQFr at e ⊢
   rw [rd_31_3]
   generalize hr : execW E 31 p _ _ _ _ = ee
   simp -implicitDefEqProofs (maxSteps := 1000000) [-Int.natCast_add, Tryz.f31, Code.loopAt, Code.key, recCells, hh, f1, f2, f3, f4, f5, f6, g, eq_true hnum, eq_true hnum', hlt, hlt', hrl, hget?, hget, hw, hmax, hmax2] at hr
   subst hr
   have e6 : A.slice (xs.map encQ ++ [encQ (rd r.s).1]) (some (52, 3)) = growing (52, 3) ((xs ++ [(rd r.s).1]).map encQ) := by
    rw [slice_growing]; simp
   have hc1 : c0 ≤ c + 1 := by omega
   simp [-Int.natCast_add, -List.map_append]
   rw [e6, f1, drop_drop_cons hc1, drop_upd hc]
   simp only [List.append_assoc, List.singleton_append, Nat.add_assoc] at e ⊢
   simpa [-Int.natCast_add, -List.map_append] using e
  ·obtain ⟨k, gl⟩ := ih (i + 1) e0 xs hbs (by omega) (by omega)
   refine ⟨1 + k, fun p id a c0 c h hc hh => ?_⟩
   obtain ⟨f1, f2, f3, f4, f5, f6⟩ := a.facts
   have hnum' : ¬ (r.num : Int) = num := by omega
   have e := gl p id a c0 (c + 1) (dropFrom p c0 h) (by omega) (by rw [f2, hh])
   rw [drop_drop_self] at e
   have hst : listR rd en num e0 (r :: rest) = listR rd en num e0 rest := by rw [listR, if_neg hnum]
   rw [hst]
   unfold listQFr at e ⊢
   rw [rd_31_3]
   generalize hr : execW E 31 p _ _ _ _ = ee
   simp -implicitDefEqProofs (maxSteps := 1000000) [-Int.natCast_add, Tryz.f31, Code.loopAt, Code.key, recCells, hh, f1, f2, f3, f4, f5, f6, hnum, hnum', hlt, hlt', hrl, hget?, hget, hw] at hr
   subst hr
   simp [-Int.natCast_add, -List.map_append]
   rw [drop_upd hc]
   simpa [-Int.natCast_add, -List.map_append, Nat.add_assoc] using e
theorem listQ_ok {f : Nat} {d : Int} {rs : List Rec} (hd0 : rs ≠ [] → 0 ≤ d) (hd : d ≤ 9223372036854775807) {rd : List UInt8 → Quant × Option Err} {u : A} {en num : Nat} (hn : rs.length ≤ 549755813888)
  (hread : ∀ r ∈ rs, ∀ (q : Id) (h : Heap), callW E q f [.str r.s, .int .i64 (d - 1)] h = some (.tuple [.agg (encQ (rd r.s).1), encO (rd r.s).2], dropFrom q 0 h))
  {e0 : Option Err} {p id : Id} (a : Apart p id) {h : Heap} (hh : h id = some [encO e0, u, .int .i64 d, .int .i64 en, growing (117, 5) (recsA rs)]) :
  callW E p 31 [.ptr id 0, .int .i64 num, .fn f []] h = some (.slice ((listR rd en num e0 rs).1.map encQ) none, upd (dropFrom p 0 h) id [encO (listR rd en num e0 rs).2, u, .int .i64 d, .int .i64 en, growing (117, 5) (recsA rs)]) := by
 obtain ⟨f1, f2, f3, f4, f5, f6⟩ := a.facts
 obtain ⟨k, gl⟩ := listQ_loop (u := u) (l := growing (117, 5) (recsA rs)) (en := en) (num := num) hd0 hd hn hread rs 0 e0 [] rfl (Nat.zero_le _) (Nat.le_refl _)
 have g := gl p id a
 have hrl : (recsA rs).length = rs.length := by simp [recsA]
 simp only [listQFr, nat0, List.map_nil, growing_nil, List.nil_append] at g
 rw [eq_31]
 simp -implicitDefEqProofs (maxSteps := 1000000) [Tryz.f31, Code.hide, Code.key, hh, f1, f2, f3, f4, f5, f6, hrl, g]
def ppFr (f : Nat) (id : Id) (num : Nat) (d : Int) (l : List KV) (i : Nat) : Fr := ((((((bot.set 16 (.int .i64 i)).set 15 (.int .i64 l.length)).set 14 (.slice (l.map encK) none)).set 4 (.fn f [])).set 3 (.int .i64 d)).set 1 (.int .i64 num)).set 0 (.ptr (97 :: id) 0)
theorem pp_loop {f : Nat} {num : Nat} (h1 : 1 ≤ num) (h2 : num ≤ 536870911) {d : Int} (hd1 : -9223372036854775808 ≤ d - 1) (hd : d ≤ 9223372036854775807) {l : List KV} (hn : l.length ≤ maxStr) (hw : ∀ x ∈ l, ∀ (q : Id) (h : Heap), callW E q f [.agg (encK x), .int .i64 (d - 1)] h = some (.tuple [.str (writeK x), .nili], dropFrom q 0 h)) :
  ∀ (t : List KV) (i : Nat) (o : Option (List UInt8)), l.drop i = t → i ≤ l.length → (o.getD []).length + (partsN num writeK t).length ≤ 549755813888 → ∃ K o', o'.getD [] = o.getD [] ++ partsN num writeK t ∧ ∀ (p id : Id) (_ : Apart p (97 :: id)) (c0 c : Nat) (h : Heap), c0 ≤ c → h (97 :: id) = some (bld (97 :: id) o) →
  iterW E 50 p [0, 1, 3, 4, 14, 15, 16] L_50_1 c0 (ppFr f id num d l i) c h =
   some (.exit 0, ppFr f id num d l l.length, c + K, upd (dropFrom p c0 h) (97 :: id) (bld (97 :: id) o')) := by
 intro t
 induction t with
 | nil =>
  intro i o hj hi hb
  have hlen : i = l.length := by have := drop_end hj; omega
  subst hlen
  refine ⟨0, o, by simp [partsN], fun p id a c0 c h hc hx => ?_⟩
  obtain ⟨f1, f2, f3, f4, f5, f6⟩ := a.facts
  have hlt' : ¬ ((l.length : Nat) : Int) < l.length := by omega
  unfold ppFr
  rw [rd_50_1]
  generalize hr : execW E 50 p _ _ _ _ = e
  simp -implicitDefEqProofs (maxSteps := 1000000) [Tryz.f50, Code.loopAt, Code.key] at hr
  subst hr
  rw [upd_id (h := dropFrom p c0 h) (by rw [f2, hx])]
  simp
 | cons x t ih =>
  intro i o hj hi hb
  obtain ⟨hlt, hbb, hbs⟩ := drop_facts hj
  have hlt' : (i : Int) < l.length := by omega
  have hw1 : IntKind.i64.wrap ((i : Int) + 1) = ((i + 1 : Nat) : Int) := by rw [wrap_succ hlt hn]; rfl
  have hwd : IntKind.i64.wrap (d - 1) = d - 1 := wrap_i64 hd1 (by omega)
  have hget? : (l.map encK)[i]? = some (encK x) := by simp [hbb]
  have hget : ∀ hl, (l.map encK)[i]'hl = encK x := fun hl => by rw [List.getElem?_eq_getElem hl] at hget?; exact Option.some.inj hget?
  have hgetl : ∀ hl, l[i]'hl = x := fun hl => by rw [List.getElem?_eq_getElem hl] at hbb; exact Option.some.inj hbb
  rw [partsN_cons, List.length_append] at hb
  have hbl := bytesB_len num (writeK x)
  obtain ⟨K, o', ho, gl⟩ := ih (i + 1) (some (o.getD [] ++ bytesB num (writeK x))) hbs (by omega) (by simp; omega)
  refine ⟨3 + K, o', by rw [ho, partsN_cons]; simp, fun p id a c0 c h hc hx => ?_⟩
  obtain ⟨f1, f2, f3, f4, f5, f6⟩ := a.facts
  have g := hw x (List.mem_of_getElem? hbb)
  have g2 := fun k h hh => xpart_ok (id := id) (o := o) h1 h2 (s := writeK x) (by omega) (by omega) (p := k :: p) (a.sub k) (h := h) hh
  have e := gl p id a c0 (c + 3) (upd (dropFrom p c0 h) (97 :: id) (bld (97 :: id) (some (o.getD [] ++ bytesB num (writeK x))))) (by omega) (by simp)
  obtain ⟨cs, hcs, hsh⟩ := flatK x
  rw [hcs] at g hget? hget
  obtain ⟨ky, hs', k0', s0', b0', n0', l0', m0', i0', u0', uu, rfl⟩ := hsh
  unfold ppFr at e ⊢
  rw [rd_50_1]
  generalize hr : execW E 50 p _ _ _ _ = ee
  simp -implicitDefEqProofs (maxSteps := 1000000) [-Int.natCast_add, Tryz.f50, Code.loopAt, Code.key, hx, f1, f2, f3, f4, f5, f6, hlt, hlt', hget?, hget, hgetl, hbb, hcs, hw1, hwd, g, g2] at hr
  subst hr
  simp [-Int.natCast_add]
  rw [show c + (3 + K) = c + 3 + K by omega]
  refine (iterW_congr rfl rfl (by omega) ?_).trans (e.trans (some5 rfl (by omega) ?_))
  all_goals simp -implicitDefEqProofs (disch := omega) only [f1, f3, own_du, drop_drop_cons, drop_upd, drop_drop, drop_drop_self, upd_upd]
theorem parts_ok {f : Nat} {num : Nat} (h1 : 1 ≤ num) (h2 : num ≤ 536870911) {d : Int} (hd1 : -9223372036854775808 ≤ d - 1) (hd : d ≤ 9223372036854775807) {l : List KV} (hn : l.length ≤ maxStr) (hw : ∀ x ∈ l, ∀ (q : Id) (h : Heap), callW E q f [.agg (encK x), .int .i64 (d - 1)] h = some (.tuple [.str (writeK x), .nili], dropFrom q 0 h))
  {o : Option (List UInt8)} (hb : (o.getD []).length + (partsN num writeK l).length ≤ 549755813888) : ∃ o', o'.getD [] = o.getD [] ++ partsN num writeK l ∧ ∀ (p id : Id) (_ : Apart p (97 :: id)) (h : Heap), h (97 :: id) = some (bld (97 :: id) o) →
  callW E p 50 [.ptr (97 :: id) 0, .int .i64 num, .slice (l.map encK) none, .int .i64 d, .fn f []] h = some (.tuple [], upd (dropFrom p 0 h) (97 :: id) (bld (97 :: id) o')) := by
 obtain ⟨K, o', ho, gl⟩ := pp_loop h1 h2 hd1 hd hn hw l 0 o rfl (Nat.zero_le _) hb
 refine ⟨o', ho, fun p id a h hx => ?_⟩
 obtain ⟨f1, f2, f3, f4, f5, f6⟩ := a.facts
 have g := fun h => gl p id a 0 0 h (Nat.le_refl _)
 simp only [ppFr, nat0] at g
 rw [eq_50]
 simp -implicitDefEqProofs (maxSteps := 1000000) [Tryz.f50, Code.hide, Code.key, g, hx, f1, f2]
def pqFr (f : Nat) (id : Id) (num : Nat) (d : Int) (l : List Quant) (i : Nat) : Fr := ((((((bot.set 16 (.int .i64 i)).set 15 (.int .i64 l.length)).set 14 (.slice (l.map encQ) none)).set 4 (.fn f [])).set 3 (.int .i64 d)).set 1 (.int .i64 num)).set 0 (.ptr (97 :: id) 0)
theorem pq_loop {f : Nat} {num : Nat} (h1 : 1 ≤ num) (h2 : num ≤ 536870911) {d : Int} (hd1 : -9223372036854775808 ≤ d - 1) (hd : d ≤ 9223372036854775807) {l : List Quant} (hn : l.length ≤ maxStr) (hw : ∀ x ∈ l, ∀ (q : Id) (h : Heap), callW E q f [.agg (encQ x), .int .i64 (d - 1)] h = some (.tuple [.str (writeQ x), .nili], dropFrom q 0 h)) :
  ∀ (t : List Quant) (i : Nat) (o : Option (List UInt8)), l.drop i = t → i ≤ l.length → (o.getD []).length + (partsN num writeQ t).length ≤ 549755813888 → ∃ K o', o'.getD [] = o.getD [] ++ partsN num writeQ t ∧ ∀ (p id : Id) (_ : Apart p (97 :: id)) (c0 c : Nat) (h : Heap), c0 ≤ c → h (97 :: id) = some (bld (97 :: id) o) →
  iterW E 48 p [0, 1, 3, 4, 14, 15, 16] L_48_1 c0 (pqFr f id num d l i) c h =
   some (.exit 0, pqFr f id num d l l.length, c + K, upd (dropFrom p c0 h) (97 :: id) (bld (97 :: id) o')) := by
 intro t
 induction t with
 | nil =>
  intro i o hj hi hb
  have hlen : i = l.length := by have := drop_end hj; omega
  subst hlen
  refine ⟨0, o, by simp [partsN], fun p id a c0 c h hc hx => ?_⟩
  obtain ⟨f1, f2, f3, f4, f5, f6⟩ := a.facts
  have hlt' : ¬ ((l.length : Nat) : Int) < l.length := by omega
  unfold pqFr
  rw [rd_48_1]
  generalize hr : execW E 48 p _ _ _ _ = e
  simp -implicitDefEqProofs (maxSteps := 1000000) [Tryz.f48, Code.loopAt, Code.key] at hr
  subst hr
  rw [upd_id (h := dropFrom p c0 h) (by rw [f2, hx])]
  simp
 | cons x t ih =>
  intro i o hj hi hb
  obtain ⟨hlt, hbb, hbs⟩ := drop_facts hj
  have hlt' : (i : Int) < l.length := by omega
  have hw1 : IntKind.i64.wrap ((i : Int) + 1) = ((i + 1 : Nat) : Int) := by rw [wrap_succ hlt hn]; rfl
  have hwd : IntKind.i64.wrap (d - 1) = d - 1 := wrap_i64 hd1 (by omega)
  have hget? : (l.map encQ)[i]? = some (encQ x) := by simp [hbb]
  have hget : ∀ hl, (l.map encQ)[i]'hl = encQ x := fun hl => by rw [List.getElem?_eq_getElem hl] at hget?; exact Option.some.inj hget?
  have hgetl : ∀ hl, l[i]'hl = x := fun hl => by rw [List.getElem?_eq_getElem hl] at hbb; exact Option.some.inj hbb
  rw [partsN_cons, List.length_append] at hb
  have hbl := bytesB_len num (writeQ x)
  obtain ⟨K, o', ho, gl⟩ := ih (i + 1) (some (o.getD [] ++ bytesB num (writeQ x))) hbs (by omega) (by simp; omega)
  refine ⟨3 + K, o', by rw [ho, partsN_cons]; simp, fun p id a c0 c h hc hx => ?_⟩
  obtain ⟨f1, f2, f3, f4, f5, f6⟩ := a.facts
  have g := hw x (List.mem_of_getElem? hbb)
  have g2 := fun k h hh => xpart_ok (id := id) (o := o) h1 h2 (s := writeQ x) (by omega) (by omega) (p := k :: p) (a.sub k) (h := h) hh
  have e := gl p id a c0 (c + 3) (upd (dropFrom p c0 h) (97 :: id) (bld (97 :: id) (some (o.getD [] ++ bytesB num (writeQ x))))) (by omega) (by simp)
  obtain ⟨cs, hcs, hsh⟩ := flatQ x
  rw [hcs] at g hget? hget
  obtain ⟨q0, v0, uu, rfl⟩ := hsh
  unfold pqFr at e ⊢
  rw [rd_48_1]
  generalize hr : execW E 48 p _ _ _ _ = ee
  simp -implicitDefEqProofs (maxSteps := 1000000) [-Int.natCast_add, Tryz.f48, Code.loopAt, Code.key, hx, f1, f2, f3, f4, f5, f6, hlt, hlt', hget?, hget, hgetl, hbb, hcs, hw1, hwd, g, g2] at hr
  subst hr
  simp [-Int.natCast_add]
  rw [show c + (3 + K) = c + 3 + K by omega]
  refine (iterW_congr rfl rfl (by omega) ?_).trans (e.trans (some5 rfl (by omega) ?_))
  all_goals simp -implicitDefEqProofs (disch := omega) only [f1, f3, own_du, drop_drop_cons, drop_upd, drop_drop, drop_drop_self, upd_upd]
theorem partsq_ok {f : Nat} {num : Nat} (h1 : 1 ≤ num) (h2 : num ≤ 536870911) {d : Int} (hd1 : -9223372036854775808 ≤ d - 1) (hd : d ≤ 9223372036854775807) {l : List Quant} (hn : l.length ≤ maxStr) (hw : ∀ x ∈ l, ∀ (q : Id) (h : Heap), callW E q f [.agg (encQ x), .int .i64 (d - 1)] h = some (.tuple [.str (writeQ x), .nili], dropFrom q 0 h))
  {o : Option (List UInt8)} (hb : (o.getD []).length + (partsN num writeQ l).length ≤ 549755813888) : ∃ o', o'.getD [] = o.getD [] ++ partsN num writeQ l ∧ ∀ (p id : Id) (_ : Apart p (97 :: id)) (h : Heap), h (97 :: id) = some (bld (97 :: id) o) →
  callW E p 48 [.ptr (97 :: id) 0, .int .i64 num, .slice (l.map encQ) none, .int .i64 d, .fn f []] h = some (.tuple [], upd (dropFrom p 0 h) (97 :: id) (bld (97 :: id) o')) := by
 obtain ⟨K, o', ho, gl⟩ := pq_loop h1 h2 hd1 hd hn hw l 0 o rfl (Nat.zero_le _) hb
 refine ⟨o', ho, fun p id a h hx => ?_⟩
 obtain ⟨f1, f2, f3, f4, f5, f6⟩ := a.facts
 have g := fun h => gl p id a 0 0 h (Nat.le_refl _)
 simp only [pqFr, nat0] at g
 rw [eq_48]
 simp -implicitDefEqProofs (maxSteps := 1000000) [Tryz.f48, Code.hide, Code.key, g, hx, f1, f2]
theorem orW_text {o : Option (List UInt8)} (num : Nat) (s : List UInt8) : (orW o (!s.isEmpty) (bytesB num s)).getD [] = o.getD [] ++ textB num s := by
 cases s <;> simp [orW, textB]
theorem orW_var {o : Option (List UInt8)} (num n : Nat) : (orW o (decide (0 < n)) (numB num n)).getD [] = o.getD [] ++ varB num n := by
 by_cases h : n = 0
 ·subst h; simp [orW, varB]
 ·have : 0 < n := by omega
  simp [orW, varB, h, this]
theorem textB_len (num : Nat) (s : List UInt8) : s.length ≤ (textB num s).length := by
 unfold textB; split
 ·rename_i h; subst h; simp
 ·have := bytesB_len num s; omega
end Go.Ai.T

namespace Go.Ai.T
open Go Go.Proofs
set_option maxRecDepth 100000
set_option maxHeartbeats 4000000
theorem ktakes_ok (p : Id) (h : Heap) (a b : Nat) : callW E p 27 [.int .i64 a, .int .i64 b] h = some (.bool (takesSm a b), dropFrom p 0 h) := by
 rw [eq_27]
 have b0 : ((b : Int) = 0) = (b = 0) := propext (by omega)
 have b1 : ((b : Int) = 1) = (b = 1) := propext (by omega)
 have b2 : ((b : Int) = 2) = (b = 2) := propext (by omega)
 have hb : ∀ n : Nat, (b == n) = decide (b = n) := fun n => rfl
 have nl6 : ((6 : Nat) : Int) = 6 := rfl
 have nl7 : ((7 : Nat) : Int) = 7 := rfl
 have nl8 : ((8 : Nat) : Int) = 8 := rfl
 rcases Nat.lt_or_ge a 9 with h8 | h8
 ·match a, h8 with
  | 0, _ => simp -implicitDefEqProofs (maxSteps := 1000000) [Tryz.f27, Code.key, nat0, takesSm]
  | 1, _ => simp -implicitDefEqProofs (maxSteps := 1000000) [Tryz.f27, Code.key, nl1, takesSm]
  | 2, _ => simp -implicitDefEqProofs (maxSteps := 1000000) [Tryz.f27, Code.key, nl2, takesSm, b0, b1, b2, hb]
  | 3, _ => simp -implicitDefEqProofs (maxSteps := 1000000) [Tryz.f27, Code.key, nl3, takesSm, b0, b1, b2, hb]
  | 4, _ => simp -implicitDefEqProofs (maxSteps := 1000000) [Tryz.f27, Code.key, nl4, takesSm, b0, b1, b2, hb]
  | 5, _ => simp -implicitDefEqProofs (maxSteps := 1000000) [Tryz.f27, Code.key, nl5, takesSm, b0, b1, b2, hb]
  | 6, _ => simp -implicitDefEqProofs (maxSteps := 1000000) [Tryz.f27, Code.key, nl6, takesSm, b0, b1, b2, hb]
  | 7, _ => simp -implicitDefEqProofs (maxSteps := 1000000) [Tryz.f27, Code.key, nl7, takesSm, b0, b1, b2, hb]
  | 8, _ => simp -implicitDefEqProofs (maxSteps := 1000000) [Tryz.f27, Code.key, nl8, takesSm, b0, b1, b2, hb]
  | n + 9, h => omega
 ·have e : takesSm a b = false := by
   unfold takesSm
   split <;> first | omega | rfl
  have c2 : ¬ (a : Int) = 2 := by omega
  have c3 : ¬ (a : Int) = 3 := by omega
  have c4 : ¬ (a : Int) = 4 := by omega
  have c5 : ¬ (a : Int) = 5 := by omega
  have c6 : ¬ (a : Int) = 6 := by omega
  have c7 : ¬ (a : Int) = 7 := by omega
  have c8 : ¬ (a : Int) = 8 := by omega
  simp -implicitDefEqProofs (maxSteps := 1000000) [Tryz.f27, Code.key, e, c2, c3, c4, c5, c6, c7, c8]
theorem ktakesOne_ok (p : Id) (h : Heap) (a b : Nat) : callW E p 78 [.int .i64 a, .int .i64 b] h = some (.bool (takesQ a b), dropFrom p 0 h) := by
 rw [eq_78]
 have b1 : ((b : Int) = 1) = (b = 1) := propext (by omega)
 have hb : ∀ n : Nat, (b == n) = decide (b = n) := fun n => rfl
 by_cases a1 : a = 1
 ·subst a1
  simp -implicitDefEqProofs (maxSteps := 1000000) [Tryz.f78, Code.key, nl1, takesQ, b1, hb]
 by_cases a2 : a = 2
 ·subst a2
  simp -implicitDefEqProofs (maxSteps := 1000000) [Tryz.f78, Code.key, nl2, takesQ, b1, hb]
 have c1 : ¬ (a : Int) = 1 := by omega
 have c2 : ¬ (a : Int) = 2 := by omega
 simp -implicitDefEqProofs (maxSteps := 1000000) [Tryz.f78, Code.key, takesQ, a1, a2, c1, c2]
theorem wrap_u32_nat (n : Nat) : IntKind.u32.wrap n = ((n % 4294967296 : Nat) : Int) := by
 simp [IntKind.wrap, IntKind.bits, IntKind.signed]
theorem xvar_ok {id : Id} {o : Option (List UInt8)} {num n : Nat} (h1 : 1 ≤ num) (h2 : num ≤ 536870911) (hn : n < 18446744073709551616) (hb : (o.getD []).length + (numB num n).length ≤ 70368744177664) {p : Id} (a : Apart p (97 :: id)) {h : Heap} (hh : h (97 :: id) = some (bld (97 :: id) o)) :
  callW E p 52 [.ptr (97 :: id) 0, .int .i64 num, .int .u64 n] h = some (.tuple [], upd (dropFrom p 0 h) (97 :: id) (bld (97 :: id) (orW o (decide (0 < n)) (numB num n)))) := by
 obtain ⟨f1, f2, f3, f4, f5, f6⟩ := a.facts
 have g2 := fun k h hh => xfew_ok h1 h2 hn hb (a.sub k) (h := h) hh
 rw [eq_52]
 by_cases hp : 0 < n
 ·have hp' : (0 : Int) < n := by omega
  simp -implicitDefEqProofs (maxSteps := 1000000) [Tryz.f52, Code.key, hh, f1, f2, f3, f4, f5, f6, g2, orW, hp, hp']
 ·have hp' : ¬ (0 : Int) < n := by omega
  simp -implicitDefEqProofs (maxSteps := 1000000) [Tryz.f52, Code.key, hh, f1, f2, f3, f4, f5, f6, orW, hp, hp']
  rw [upd_id (h := dropFrom p 0 h) (by rw [f2, hh])]
theorem xfixed_ok {id : Id} {o : Option (List UInt8)} {num n : Nat} (h1 : 1 ≤ num) (h2 : num ≤ 536870911) (hn : n < 18446744073709551616) (hb : (o.getD []).length + (fixB num n).length ≤ 70368744177664) {p : Id} (a : Apart p (97 :: id)) {h : Heap} (hh : h (97 :: id) = some (bld (97 :: id) o)) :
  callW E p 47 [.ptr (97 :: id) 0, .int .i64 num, .int .u64 n] h = some (.tuple [], upd (dropFrom p 0 h) (97 :: id) (bld (97 :: id) (orW o (decide (0 < n)) (fixB num n)))) := by
 obtain ⟨f1, f2, f3, f4, f5, f6⟩ := a.facts
 have g2 := fun k h hh => xeight_ok h1 h2 hb (a.sub k) (h := h) hh
 rw [eq_47]
 by_cases hp : 0 < n
 ·have hp' : (0 : Int) < n := by omega
  simp -implicitDefEqProofs (maxSteps := 1000000) [Tryz.f47, Code.key, hh, f1, f2, f3, f4, f5, f6, g2, orW, hp, hp']
 ·have hp' : ¬ (0 : Int) < n := by omega
  simp -implicitDefEqProofs (maxSteps := 1000000) [Tryz.f47, Code.key, hh, f1, f2, f3, f4, f5, f6, orW, hp, hp']
  rw [upd_id (h := dropFrom p 0 h) (by rw [f2, hh])]
theorem orW_opt {o : Option (List UInt8)} (num n : Nat) : (orW o (decide (0 < n)) (fixB num n)).getD [] = o.getD [] ++ optB num n := by
 by_cases h : n = 0
 ·subst h; simp [orW, optB]
 ·have : 0 < n := by omega
  simp [orW, optB, h, this]
theorem mfixed_ok {e0 u dd en : A} {num : Nat} {rs : List Rec} (hn : rs.length ≤ 1099511627776) {p id : Id} (a : Apart p id) {h : Heap} (hh : h id = some [e0, u, dd, en, growing (117, 5) (recsA rs)]) :
  callW E p 30 [.ptr id 0, .int .i64 num] h = some (.int .u64 (lastR num rs).n, dropFrom p 0 h) := by
 obtain ⟨f1, f2, f3, f4, f5, f6⟩ := a.facts
 have g := fun k h (hh : h id = some [e0, u, dd, en, growing (117, 5) (recsA rs)]) => last_ok (num := num) hn (a.sub k) (h := h) hh
 simp only [encRec] at g
 rw [eq_30]
 simp -implicitDefEqProofs (maxSteps := 1000000) [Tryz.f30, Code.hide, Code.key, hh, f1, f2, f3, f4, f5, f6, g]
theorem tabSm (num kind : Nat) (h : kind < 8) : tabR [17, 25, 33, 41, 50, 58, 64] num kind = takesSm num kind := by
 rcases Nat.lt_or_ge num 9 with h8 | h8
 ·have : ∀ n : Fin 9, ∀ k : Fin 8, tabR [17, 25, 33, 41, 50, 58, 64] n.val k.val = takesSm n.val k.val := by decide
  exact this ⟨num, h8⟩ ⟨kind, h⟩
 ·have e1 : takesSm num kind = false := by
   unfold takesSm; split <;> first | omega | rfl
  rw [e1]; simp [tabR]; omega
theorem tabQ (num kind : Nat) (h : kind < 8) : tabR [9, 17] num kind = takesQ num kind := by
 rcases Nat.lt_or_ge num 3 with h8 | h8
 ·have : ∀ n : Fin 3, ∀ k : Fin 8, tabR [9, 17] n.val k.val = takesQ n.val k.val := by decide
  exact this ⟨num, h8⟩ ⟨kind, h⟩
 ·have e1 : takesQ num kind = false := by
   unfold takesQ; simp; omega
  rw [e1]; simp [tabR]; omega
theorem quants_ok (p : Id) (h : Heap) : callW E p 45 [] h = some (.slice (intsA [9, 17]) none, dropFrom p 0 h) := by
 rw [eq_45]
 simp -implicitDefEqProofs (maxSteps := 1000000) [Tryz.f45, Code.key, intsA]
theorem summs_ok (p : Id) (h : Heap) : callW E p 35 [] h = some (.slice (intsA [17, 25, 33, 41, 50, 58, 64]) none, dropFrom p 0 h) := by
 rw [eq_35]
 simp -implicitDefEqProofs (maxSteps := 1000000) [Tryz.f35, Code.key, intsA]
end Go.Ai.T

namespace Go.Ai.T
open Go Go.Proofs
set_option maxRecDepth 100000
set_option maxHeartbeats 4000000
theorem kmayOne_ok {x : Quant} (hs : x.sz ≤ 549755813888) {d : Int} (hd : d ≤ 9223372036854775807) (p : Id) (h : Heap) : callW E p 56 [.agg (encQ x), .int .i64 d] h = some (.bool (mayQ x d), dropFrom p 0 h) := by
 obtain ⟨q, v, u⟩ := x
 unfold Quant.sz at hs
 dsimp only at hs
 have g4 := fun q h => rest_ok (s := u) (by omega) hd ktakesOne_ok q h
 unfold mayQ encQ
 dsimp only
 rw [eq_56]
 by_cases h0 : d < 0
 ·have h0' : ¬ 0 ≤ d := by omega
  have e : decide (0 ≤ d) = false := by simp; omega
  rw [e]
  simp -implicitDefEqProofs (maxSteps := 1000000) [Tryz.f56, Code.key, h0, h0']
 have h0' : 0 ≤ d := by omega
 have e : decide (0 ≤ d) = true := by simp; omega
 rw [e]
 simp -implicitDefEqProofs (maxSteps := 1000000) [Tryz.f56, Code.key, h0, h0', g4]
def idxB (b : Quant → Bool) : List Quant → Nat → Int
 | [], _ => -1
 | x :: xs, i => if b x = true then i else idxB b xs (i + 1)
theorem idxB_any (b : Quant → Bool) : ∀ (l : List Quant) (i : Nat), decide (0 ≤ idxB b l i) = l.any b
 | [], i => rfl
 | x :: xs, i => by
  rw [idxB, List.any_cons]
  cases h : b x with
  | true => simp
  | false => simpa using idxB_any b xs (i + 1)
def ixFr (g : Nat) (id1 id2 : Id) (l : List Quant) (r : Int) (i : Nat) : Fr := ((((bot.set 8 (.int .i64 i)).set 7 (.int .i64 l.length)).set 4 (.int .i64 r)).set 1 (.fn g [.ptr id1 0, .ptr id2 0])).set 0 (.slice (l.map encQ) none)
theorem ixf_loop {l : List Quant} (hn : l.length ≤ maxStr) {g : Nat} {id1 id2 : Id} {b : Quant → Bool} {p : Id} {I : Heap → Prop} (hI : ∀ x ∈ l, ∀ (k : Nat) (h : Heap), I h → callW E (k :: p) g [.agg (encQ x), .ptr id1 0, .ptr id2 0] h = some (.bool (b x), dropFrom (k :: p) 0 h)) (hD : ∀ c h, I h → I (dropFrom p c h)) :
  ∀ (rest : List Quant) (i : Nat), l.drop i = rest → i ≤ l.length → ∃ K i' : Nat, ∀ (c0 c : Nat) (h : Heap), c0 ≤ c → I h →
  iterW E 132 p [0, 1, 4, 7, 8] L_132_2 c0 (ixFr g id1 id2 l 0 i) c h =
   some (if rest.any b = true then .ret else .exit 0, ixFr g id1 id2 l (if rest.any b = true then idxB b rest i else 0) i', c + K, dropFrom p c0 h) := by
 intro rest
 induction rest with
 | nil =>
  intro i hj hi
  refine ⟨0, i, fun c0 c h hc hh => ?_⟩
  have hlt' : ¬ (i : Int) < l.length := drop_end hj
  unfold ixFr
  rw [rd_132_2]
  generalize hr : execW E 132 p _ _ _ _ = e
  simp -implicitDefEqProofs (maxSteps := 1000000) [Tryz.f132, Code.loopAt, Code.key, hlt'] at hr
  subst hr
  simp
 | cons x rest ih =>
  intro i hj hi
  obtain ⟨hlt, hbb, hbs⟩ := drop_facts hj
  have hlt' : (i : Int) < l.length := by omega
  have hw : IntKind.i64.wrap ((i : Int) + 1) = ((i + 1 : Nat) : Int) := by rw [wrap_succ hlt hn]; rfl
  have hl1 : (l.map encQ).length = l.length := by simp
  have hget? : (l.map encQ)[i]? = some (encQ x) := by simp [hbb]
  have hget : ∀ hl, (l.map encQ)[i]'hl = encQ x := fun hl => by rw [List.getElem?_eq_getElem hl] at hget?; exact Option.some.inj hget?
  have hgetl : ∀ hl, l[i]'hl = x := fun hl => by rw [List.getElem?_eq_getElem hl] at hbb; exact Option.some.inj hbb
  have hc1 := fun k h (hh : I h) => hI x (List.mem_of_getElem? hbb) k h hh
  cases hv : b x with
  | true =>
   rw [hv] at hc1
   refine ⟨1, i, fun c0 c h hc hh => ?_⟩
   have ha : (x :: rest).any b = true := by simp [hv]
   have e1 : idxB b (x :: rest) i = i := by rw [idxB, if_pos hv]
   rw [if_pos ha, if_pos ha, e1]
   have hcc := hc1 c h hh
   obtain ⟨cs, hcs, hst⟩ := flatQ x
   rw [hcs] at hcc hget? hget
   obtain ⟨q, v, uu, rfl⟩ := hst
   unfold ixFr
   rw [rd_132_2]
   generalize hr : execW E 132 p _ _ _ _ = e
   simp -implicitDefEqProofs (maxSteps := 1000000) [Tryz.f132, Code.loopAt, Code.key, hlt, hlt', hl1, hget?, hget, hgetl, hbb, hcs, hcc] at hr
   subst hr
   simp [hc]
  | false =>
   rw [hv] at hc1
   obtain ⟨K, i', gl⟩ := ih (i + 1) hbs (by omega)
   refine ⟨1 + K, i', fun c0 c h hc hh => ?_⟩
   have ha : (x :: rest).any b = rest.any b := by simp [hv]
   have e1 : idxB b (x :: rest) i = idxB b rest (i + 1) := by rw [idxB, if_neg (by simp [hv])]
   rw [ha, e1]
   have hcc := hc1 c h hh
   have e := gl c0 (c + 1) (dropFrom p c0 h) (by omega) (hD _ _ hh)
   obtain ⟨cs, hcs, hst⟩ := flatQ x
   rw [hcs] at hcc hget? hget
   obtain ⟨q, v, uu, rfl⟩ := hst
   unfold ixFr at e ⊢
   rw [rd_132_2]
   generalize hr : execW E 132 p _ _ _ _ = ee
   simp -implicitDefEqProofs (maxSteps := 1000000) [-Int.natCast_add, Tryz.f132, Code.loopAt, Code.key, hlt, hlt', hl1, hget?, hget, hgetl, hbb, hcs, hcc, hw] at hr
   subst hr
   have hc1 : c0 ≤ c := hc
   simp [-Int.natCast_add, hc]
   rw [show c + (1 + K) = c + 1 + K by omega]
   simpa [-Int.natCast_add] using e
theorem ixf_ok {l : List Quant} (hn : l.length ≤ maxStr) {g : Nat} {id1 id2 : Id} {b : Quant → Bool} {p : Id} {I : Heap → Prop} (hI : ∀ x ∈ l, ∀ (k : Nat) (h : Heap), I h → callW E (k :: p) g [.agg (encQ x), .ptr id1 0, .ptr id2 0] h = some (.bool (b x), dropFrom (k :: p) 0 h)) (hD : ∀ c h, I h → I (dropFrom p c h)) (h : Heap) (hh : I h) :
  callW E p 132 [.slice (l.map encQ) none, .fn g [.ptr id1 0, .ptr id2 0]] h = some (.int .i64 (idxB b l 0), dropFrom p 0 h) := by
 obtain ⟨K, i', gl⟩ := ixf_loop hn hI hD l 0 rfl (Nat.zero_le _)
 have g1 := gl 0 0 h (Nat.le_refl _) hh
 have hl1 : (l.map encQ).length = l.length := by simp
 have hx := idxB_any b l 0
 rw [eq_132]
 cases hc : l.any b with
 | true =>
  rw [hc] at g1
  simp only [ixFr, if_true, nat0] at g1
  simp -implicitDefEqProofs (maxSteps := 1000000) [Tryz.f132, Code.hide, Code.key, hl1, g1]
 | false =>
  rw [hc] at g1 hx
  have : ∀ (l : List Quant) (i : Nat), l.any b = false → idxB b l i = -1 := by
   intro l
   induction l with
   | nil => intro i _; rfl
   | cons a l ih => intro i h; rw [List.any_cons, Bool.or_eq_false_iff] at h; rw [idxB, if_neg (by simp [h.1])]; exact ih (i + 1) h.2
  rw [this l 0 hc]
  simp only [ixFr, nat0, Bool.false_eq_true, if_false] at g1
  simp -implicitDefEqProofs (maxSteps := 1000000) [Tryz.f132, Code.hide, Code.key, hl1, g1]
theorem cnf_ok {l : List Quant} (hn : l.length ≤ maxStr) {g : Nat} {id1 id2 : Id} {b : Quant → Bool} {p : Id} {I : Heap → Prop} (hI : ∀ x ∈ l, ∀ (k k' : Nat) (h : Heap), I h → callW E (k :: k' :: p) g [.agg (encQ x), .ptr id1 0, .ptr id2 0] h = some (.bool (b x), dropFrom (k :: k' :: p) 0 h)) (hD : ∀ k c h, I h → I (dropFrom (k :: p) c h)) (h : Heap) (hh : I h) :
  callW E p 95 [.slice (l.map encQ) none, .fn g [.ptr id1 0, .ptr id2 0]] h = some (.bool (l.any b), dropFrom p 0 h) := by
 have g1 := fun k => ixf_ok hn (p := k :: p) (fun x hx j h hh => hI x hx j k h hh) (hD k) h hh
 have hx := idxB_any b l 0
 rw [eq_95]
 by_cases h0 : 0 ≤ idxB b l 0
 ·have hc : l.any b = true := by rw [← hx]; simpa using h0
  rw [hc]
  simp -implicitDefEqProofs (maxSteps := 1000000) [Tryz.f95, Code.key, g1, h0]
 ·have hc : l.any b = false := by rw [← hx]; simpa using h0
  rw [hc]
  simp -implicitDefEqProofs (maxSteps := 1000000) [Tryz.f95, Code.key, g1, h0]
theorem allQ1_ok {x : Quant} (hs : x.sz ≤ 549755813888) {d : Int} (hd1 : -9223372036854775808 ≤ d - 1) (hd : d ≤ 9223372036854775807) {p id1 id2 : Id} (a1 : Apart p id1) (a2 : Apart p id2) (h : Heap) (h1 : h id1 = some [.fn 56 []]) (h2 : h id2 = some [.int .i64 d]) :
  callW E p 96 [.agg (encQ x), .ptr id1 0, .ptr id2 0] h = some (.bool (!(mayQ x (d - 1))), dropFrom p 0 h) := by
 obtain ⟨f1, f2, f3, f4, f5, f6⟩ := a1.facts
 obtain ⟨e1, e2, e3, e4, e5, e6⟩ := a2.facts
 have hwd : IntKind.i64.wrap (d - 1) = d - 1 := wrap_i64 hd1 (by omega)
 have g := fun q h => kmayOne_ok hs (d := d - 1) (by omega) q h
 obtain ⟨cs, hcs, hst⟩ := flatQ x
 rw [hcs] at g ⊢
 obtain ⟨q, v, uu, rfl⟩ := hst
 rw [eq_96]
 simp -implicitDefEqProofs (maxSteps := 1000000) [Tryz.f96, Code.hide, Code.key, h1, h2, f1, f2, f3, f4, f5, f6, e1, e2, e3, e4, e5, e6, g, hwd]
theorem allQ_ok {l : List Quant} (hn : l.length ≤ maxStr) (hs : ∀ x ∈ l, x.sz ≤ 549755813888) {d : Int} (hd1 : -9223372036854775808 ≤ d - 1) (hd : d ≤ 9223372036854775807) (p : Id) (h : Heap) :
  callW E p 55 [.slice (l.map encQ) none, .int .i64 d, .fn 56 []] h = some (.bool (l.all fun q => mayQ q (d - 1)), dropFrom p 0 h) := by
 have ne : l.any (fun q => !(mayQ q (d - 1))) = !(l.all fun q => mayQ q (d - 1)) := by
  induction l with
  | nil => rfl
  | cons a l ih => rw [List.any_cons, List.all_cons, ih (by simp at hn; omega) (fun x hx => hs x (by simp [hx]))]; simp
 have g := fun h (h1 : h (107 :: 1 :: p) = some [.fn 56 []]) (h2 : h (3 :: 0 :: p) = some [.int .i64 d]) =>
  cnf_ok hn (g := 96) (id1 := 107 :: 1 :: p) (id2 := 3 :: 0 :: p) (b := fun q => !(mayQ q (d - 1))) (p := 2 :: p) (I := fun h => h (107 :: 1 :: p) = some [.fn 56 []] ∧ h (3 :: 0 :: p) = some [.int .i64 d])
   (fun x hx j j' h hh => allQ1_ok (hs x hx) hd1 hd (((Apart.own (by omega)).sub j').sub j) (((Apart.own (by omega)).sub j').sub j) h hh.1 hh.2)
   (fun j c h hh => ⟨by rw [drop_other (((Apart.own (by omega)).sub j).at_ c)]; exact hh.1, by rw [drop_other (((Apart.own (by omega)).sub j).at_ c)]; exact hh.2⟩) h ⟨h1, h2⟩
 rw [ne] at g
 rw [eq_55]
 simp -implicitDefEqProofs (maxSteps := 1000000) [Tryz.f55, Code.hide, Code.key, g]
def eqlFr (xs ys : List Quant) (i : Nat) : Fr := ((((bot.set 13 (.int .i64 i)).set 12 (.int .i64 xs.length)).set 4 (.bool false)).set 1 (.slice (ys.map encQ) none)).set 0 (.slice (xs.map encQ) none)
open Classical in
theorem eqlQ_loop {p : Id} {c0 : Nat} {l m : List Quant} (hl : l.length ≤ maxStr) :
  ∀ (ra rb : List Quant), ra.length = rb.length → ∃ j' : Nat, ∀ (j c : Nat) (h : Heap), l.drop j = ra → m.drop j = rb → c0 ≤ c →
  iterW E 63 p [0, 1, 4, 12, 13] L_63_4 c0 (eqlFr l m j) c h = some (if ra = rb then .exit 0 else .ret, eqlFr l m (j + j'), c, dropFrom p c0 h) := by
 intro ra
 induction ra with
 | nil =>
  intro rb hrb
  obtain rfl : rb = [] := List.eq_nil_of_length_eq_zero hrb.symm
  refine ⟨0, fun j c h hj hj2 hc => ?_⟩
  unfold eqlFr
  rw [rd_63_4]
  have h1 := drop_end hj
  generalize hr : execW E 63 p _ _ _ _ = e
  simp -implicitDefEqProofs (maxSteps := 1000000) [Tryz.f63, Code.loopAt, Code.key, h1] at hr
  subst hr
  rfl
 | cons x xs ih =>
  intro rb hrb
  cases rb with
  | nil => cases hrb
  | cons y ys =>
   obtain ⟨j', ih⟩ := ih ys (by simpa using hrb)
   refine ⟨if x = y then j' + 1 else 0, fun j c h hj hj2 hc => ?_⟩
   obtain ⟨hlt, hx, hxs⟩ := drop_facts hj
   obtain ⟨hlt2, hy, hys⟩ := drop_facts hj2
   have h1 := drop_lt hj
   have hw := wrap_succ hlt hl
   have hl1 : (l.map encQ).length = l.length := by simp
   have hl2 : (m.map encQ).length = m.length := by simp
   have hgx' : ∀ hl, l[j]'hl = x := fun hl => by rw [List.getElem?_eq_getElem hl] at hx; exact Option.some.inj hx
   have hgy' : ∀ hl, m[j]'hl = y := fun hl => by rw [List.getElem?_eq_getElem hl] at hy; exact Option.some.inj hy
   by_cases hxy : x = y
   ·subst hxy
    have g := ih (j + 1) c (dropFrom p c0 h) hxs hys hc
    obtain ⟨q, v, uu⟩ := x
    unfold eqlFr at g ⊢
    rw [rd_63_4]
    generalize hr : execW E 63 p _ _ _ _ = e
    simp -implicitDefEqProofs (maxSteps := 1000000) [Tryz.f63, Code.loopAt, Code.key, h1, hlt, hlt2, hx, hy, hgx', hgy', hl1, hl2, hw, encQ] at hr
    subst hr
    rw [if_pos rfl, show j + (j' + 1) = j + 1 + j' by omega]
    simpa [hc] using g
   ·obtain ⟨q, v, uu⟩ := x
    obtain ⟨q', v', uu'⟩ := y
    unfold eqlFr
    rw [rd_63_4]
    generalize hr : execW E 63 p _ _ _ _ = e
    by_cases e1 : q = q'
    ·subst e1
     by_cases e2 : v = v'
     ·subst e2
      have e3 : ¬ uu = uu' := fun e => hxy (by rw [e])
      simp -implicitDefEqProofs (maxSteps := 1000000) [Tryz.f63, Code.loopAt, Code.key, h1, hlt, hlt2, hx, hy, hgx', hgy', hl1, hl2, hw, encQ, e3] at hr
      subst hr
      simp [e3, hc]
     ·have e2' : ¬ (v : Int) = v' := by omega
      simp -implicitDefEqProofs (maxSteps := 1000000) [Tryz.f63, Code.loopAt, Code.key, h1, hlt, hlt2, hx, hy, hgx', hgy', hl1, hl2, hw, encQ, e2, e2'] at hr
      subst hr
      simp [e2, hc]
    ·have e1' : ¬ (q : Int) = q' := by omega
     simp -implicitDefEqProofs (maxSteps := 1000000) [Tryz.f63, Code.loopAt, Code.key, h1, hlt, hlt2, hx, hy, hgx', hgy', hl1, hl2, hw, encQ, e1, e1'] at hr
     subst hr
     simp [e1, hc]
open Classical in
theorem eqlQ_ok {l m : List Quant} (hl : l.length ≤ maxStr) (p : Id) (h : Heap) : callW E p 63 [.slice (l.map encQ) none, .slice (m.map encQ) none] h = some (.bool (decide (l = m)), dropFrom p 0 h) := by
 rw [eq_63]
 by_cases hlm : l.length = m.length
 ·obtain ⟨j', g⟩ := eqlQ_loop (p := p) (c0 := 0) hl l m hlm
  have g := fun h => g 0 0 h rfl rfl (Nat.le_refl _)
  simp only [eqlFr, nat0] at g
  have hl' : ((l.length : Nat) : Int) = m.length := by omega
  by_cases he : l = m
  ·subst he
   simp -implicitDefEqProofs (maxSteps := 1000000) [Tryz.f63, Code.hide, Code.key, g]
  ·rw [hlm] at g
   simp -implicitDefEqProofs (maxSteps := 1000000) [Tryz.f63, Code.hide, Code.key, g, he, hlm]
 ·have h1 : ¬ ((l.length : Nat) : Int) = m.length := by omega
  have he : ¬ l = m := fun e => hlm (by rw [e])
  simp -implicitDefEqProofs (maxSteps := 1000000) [Tryz.f63, Code.hide, Code.key, h1, he, hlm]
open Classical in
theorem csameSm_ok {a b : SummM} (hw : a.wf) (p : Id) (h : Heap) : callW E p 24 [.agg (encSumm a), .agg (encSumm b)] h = some (.bool (decide (a = b)), dropFrom p 0 h) := by
 obtain ⟨l, st, ti, cn, su, qs, fl, u⟩ := a
 obtain ⟨l', st', ti', cn', su', qs', fl', u'⟩ := b
 obtain ⟨hl, hwl, _, _, _, _, hql, _, _, _⟩ := hw
 have hk := fun q h => sameKeys_ok (l := l) (m := l') hl hwl q h
 have hq := fun q h => eqlQ_ok (l := qs) (m := qs') hql q h
 unfold encSumm
 dsimp only
 rw [eq_24]
 by_cases e1 : st = st'
 ·subst e1
  by_cases e2 : ti = ti'
  ·subst e2
   by_cases e3 : cn = cn'
   ·subst e3
    by_cases e4 : su = su'
    ·subst e4
     by_cases e5 : fl = fl'
     ·subst e5
      by_cases e6 : u = u'
      ·subst e6
       by_cases e7 : qs = qs'
       ·subst e7
        by_cases e8 : l = l'
        ·subst e8; simp -implicitDefEqProofs (maxSteps := 1000000) [Tryz.f24, Code.key, hk, hq]
        ·simp -implicitDefEqProofs (maxSteps := 1000000) [Tryz.f24, Code.key, hk, hq, e8]
       ·simp -implicitDefEqProofs (maxSteps := 1000000) [Tryz.f24, Code.key, hq, e7]
      ·simp -implicitDefEqProofs (maxSteps := 1000000) [Tryz.f24, Code.key, e6]
     ·have e5' : ¬ ((fl : Int) = fl') := by omega
      simp -implicitDefEqProofs (maxSteps := 1000000) [Tryz.f24, Code.key, e5, e5']
    ·have e4' : ¬ ((su : Int) = su') := by omega
     simp -implicitDefEqProofs (maxSteps := 1000000) [Tryz.f24, Code.key, e4, e4']
   ·have e3' : ¬ ((cn : Int) = cn') := by omega
    simp -implicitDefEqProofs (maxSteps := 1000000) [Tryz.f24, Code.key, e3, e3']
  ·have e2' : ¬ ((ti : Int) = ti') := by omega
   simp -implicitDefEqProofs (maxSteps := 1000000) [Tryz.f24, Code.key, e2, e2']
 ·have e1' : ¬ ((st : Int) = st') := by omega
  simp -implicitDefEqProofs (maxSteps := 1000000) [Tryz.f24, Code.key, e1, e1']
def roomQs : List Quant → Int → Int
 | [], r => r
 | x :: xs, r => if 0 ≤ r then roomQs xs (takeR r x.unk.length) else r
def roomSm (x : SummM) (r : Int) : Int := roomK x.attrs 40 (roomQs x.quants (takeR r x.unk.length))
theorem roomQs_le : ∀ {l : List Quant} {r : Int}, -1 ≤ r → -1 ≤ roomQs l r ∧ roomQs l r ≤ r
 | [], r, h => by rw [roomQs]; omega
 | x :: xs, r, h => by
  rw [roomQs]
  split
  ·have h1 := takeR_le (room := r) (n := x.unk.length) h (by omega)
   have h2 := roomQs_le (l := xs) h1.1
   omega
  ·omega
def rmqFr (p : Id) (r : Int) (i : Nat) : Fr := ((bot.set 5 (.int .i64 i)).set 2 (.ptr (28 :: 0 :: p) 0)).set 1 (.int .i64 r)
theorem roomQ_loop {x : SummM} (hl : x.quants.length ≤ maxStr) : ∀ (rest : List Quant) (i : Nat) (r : Int), x.quants.drop i = rest → i ≤ x.quants.length → -1 ≤ r → r ≤ 9223372036854775807 → ∃ i' K : Nat, ∀ (p : Id) (c0 c : Nat) (h : Heap), 1 ≤ c0 → c0 ≤ c → h (28 :: 0 :: p) = some (encSumm x) →
  iterW E 18 p [1, 2, 5] L_18_3 c0 (rmqFr p r i) c h = some (.exit 0, rmqFr p (roomQs rest r) i', c + K, dropFrom p c0 h) := by
 intro rest
 obtain ⟨l, st, ti, cn, su, qs, fl, u⟩ := x
 unfold encSumm
 dsimp only at hl ⊢
 induction rest with
 | nil =>
  intro i r hj hi hr hr2
  refine ⟨i, 0, fun p c0 c h h0 hc hh => ?_⟩
  have h1 := drop_end hj
  have hl1 : (qs.map encQ).length = qs.length := by simp
  rw [roomQs]
  unfold rmqFr
  rw [rd_18_3]
  generalize hr : execW E 18 p _ _ _ _ = e
  simp -implicitDefEqProofs (maxSteps := 1000000) [Tryz.f18, Code.loopAt, Code.key, h1, hh, hl1] at hr
  subst hr
  rfl
 | cons x xs ih =>
  intro i r hj hi hr hr2
  obtain ⟨hlt, hx, hxs⟩ := drop_facts hj
  have hlt' := drop_lt hj
  have hl1 : (qs.map encQ).length = qs.length := by simp
  rw [roomQs]
  by_cases h2 : 0 ≤ r
  ·rw [if_pos h2]
   have hrl := takeR_le (room := r) (n := x.unk.length) hr (by omega)
   obtain ⟨i', K, ih⟩ := ih (i + 1) (takeR r x.unk.length) hxs (by omega) hrl.1 (by omega)
   refine ⟨i', 1 + K, fun p c0 c h h0 hc hh => ?_⟩
   have hc0 : ¬ c0 ≤ 0 := by omega
   have hw := wrap_succ hlt hl
   have gt := fun q h => take_ok (room := r) (n := x.unk.length) hr hr2 (by omega) q h
   have hget? : (qs.map encQ)[i]? = some (encQ x) := by simp [hx]
   have hgetl : ∀ hl, qs[i]'hl = x := fun hl => by rw [List.getElem?_eq_getElem hl] at hx; exact Option.some.inj hx
   have g := ih p c0 (c + 1) (dropFrom p c0 h) h0 (by omega) (by simp [hc0, hh])
   obtain ⟨cs, hcs, hst⟩ := flatQ x
   have hu : ∃ q v, cs = [.int .u64 q, .int .u64 v, .str x.unk] := ⟨_, _, hcs.symm⟩
   obtain ⟨q, v, rfl⟩ := hu
   rw [hcs] at hget?
   unfold rmqFr at g ⊢
   rw [rd_18_3]
   generalize hr : execW E 18 p _ _ _ _ = e
   simp -implicitDefEqProofs (maxSteps := 1000000) [Tryz.f18, Code.loopAt, Code.key, hlt, hlt', hh, h2, hx, hget?, hgetl, hcs, hw, gt, hl1] at hr
   subst hr
   rw [show c + (1 + K) = c + 1 + K by omega]
   simpa [hc] using g
  ·rw [if_neg h2]
   refine ⟨i, 0, fun p c0 c h h0 hc hh => ?_⟩
   unfold rmqFr
   rw [rd_18_3]
   generalize hr : execW E 18 p _ _ _ _ = e
   simp -implicitDefEqProofs (maxSteps := 1000000) [Tryz.f18, Code.loopAt, Code.key, hlt, hlt', hh, h2, hl1] at hr
   subst hr
   rfl
theorem croomSm_ok {x : SummM} (hw : x.wf) {r : Int} (hr : -1 ≤ r) (hr2 : r ≤ 9223372036854775807) (p : Id) (h : Heap) : callW E p 18 [.agg (encSumm x), .int .i64 r] h = some (.int .i64 (roomSm x r), dropFrom p 0 h) := by
 have hll := fun r h1 h2 => roomQ_loop (x := x) hw.2.2.2.2.2.2.1 x.quants 0 r rfl (Nat.zero_le _) h1 h2
 obtain ⟨l, st, ti, cn, su, qs, fl, u⟩ := x
 obtain ⟨hl, hwl, h1, h2, h3, h4, hql, hqw, hfl, hu⟩ := hw
 dsimp only at hl hwl hql hqw hu hll
 have ht1 := fun q h => take_ok (room := r) (n := u.length) hr hr2 (by omega) q h
 have hl1 := takeR_le (room := r) (n := u.length) hr (by omega)
 have hl2 := roomQs_le (l := qs) hl1.1
 obtain ⟨i', K, g⟩ := hll (takeR r u.length) hl1.1 (by omega)
 have g := fun h => g p 2 2 h (by omega) (Nat.le_refl _)
 have hk := fun q h => roomK_ok hl hwl (d := 40) (r := roomQs qs (takeR r u.length)) (by omega) (by omega) hl2.1 (by omega) q h
 unfold encSumm roomSm
 simp only [encSumm, rmqFr, nat0] at g
 dsimp only at g ⊢
 rw [eq_18]
 simp -implicitDefEqProofs (maxSteps := 1000000) [Tryz.f18, Code.hide, Code.key, ht1, hk, g]
def rsqFr (p : Id) (i : Nat) : Fr := (((bot.set 5 (.int .i64 i)).set 4 (.bool false)).set 3 (.ptr (28 :: 1 :: p) 0)).set 2 (.ptr (28 :: 0 :: p) 0)
open Classical in
theorem rsq_loop {x y : SummM} (hl : x.quants.length ≤ maxStr) : ∀ (ra rb : List Quant) (i : Nat), ra.length = rb.length → x.quants.drop i = ra → y.quants.drop i = rb → ∃ i' K : Nat, ∀ (p : Id) (c0 c : Nat) (h : Heap), 2 ≤ c0 → c0 ≤ c → h (28 :: 0 :: p) = some (encSumm x) → h (28 :: 1 :: p) = some (encSumm y) →
  iterW E 15 p [2, 3, 4, 5] L_15_4 c0 (rsqFr p i) c h = some (if ra = rb then .exit 0 else .ret, rsqFr p i', c + K, dropFrom p c0 h) := by
 obtain ⟨l, st, ti, cn, su, qs, fl, u⟩ := x
 obtain ⟨l', st', ti', cn', su', qs', fl', u'⟩ := y
 unfold encSumm
 dsimp only at hl ⊢
 have hl1 : (qs.map encQ).length = qs.length := by simp
 have hl2 : (qs'.map encQ).length = qs'.length := by simp
 intro ra
 induction ra with
 | nil =>
  intro rb i hrb hj hj2
  obtain rfl : rb = [] := List.eq_nil_of_length_eq_zero hrb.symm
  refine ⟨i, 0, fun p c0 c h h0 hc hh hh2 => ?_⟩
  have h1 := drop_end hj
  unfold rsqFr
  rw [rd_15_4]
  generalize hr : execW E 15 p _ _ _ _ = e
  simp -implicitDefEqProofs (maxSteps := 1000000) [Tryz.f15, Code.loopAt, Code.key, h1, hh, hh2, hl1] at hr
  subst hr
  rfl
 | cons x xs ih =>
  intro rb i hrb hj hj2
  cases rb with
  | nil => cases hrb
  | cons y ys =>
   obtain ⟨hlt, hx, hxs⟩ := drop_facts hj
   obtain ⟨hlt2, hy, hys⟩ := drop_facts hj2
   have h1 := drop_lt hj
   have hw := wrap_succ hlt hl
   have hgx' : ∀ hl, qs[i]'hl = x := fun hl => by rw [List.getElem?_eq_getElem hl] at hx; exact Option.some.inj hx
   have hgy' : ∀ hl, qs'[i]'hl = y := fun hl => by rw [List.getElem?_eq_getElem hl] at hy; exact Option.some.inj hy
   obtain ⟨i', K, ih⟩ := ih ys (i + 1) (by simpa using hrb) hxs hys
   by_cases hxy : x = y
   ·subst hxy
    refine ⟨i', 2 + K, fun p c0 c h h0 hc hh hh2 => ?_⟩
    have hc0 : ¬ c0 ≤ 0 := by omega
    have hc1 : ¬ c0 ≤ 1 := by omega
    have ec : ¬ 0 = c := by omega
    have ec1 : ¬ 0 = c + 1 := by omega
    have ed : ¬ 1 = c := by omega
    have ed1 : ¬ 1 = c + 1 := by omega
    have ee : ¬ c = c + 1 := by omega
    have hc2 : c0 ≤ c + 1 := by omega
    have g := ih p c0 (c + 1 + 1) (dropFrom p c0 h) h0 (by omega) (by simp [hc0, hh]) (by simp [hc1, hh2])
    obtain ⟨q, v, uu⟩ := x
    unfold rsqFr at g ⊢
    rw [rd_15_4]
    generalize hr : execW E 15 p _ _ _ _ = e
    simp -implicitDefEqProofs (maxSteps := 1000000) [Tryz.f15, Code.loopAt, Code.key, h1, hlt, hlt2, hx, hy, hgx', hgy', hl1, hl2, hw, hh, hh2, encQ, ec, ec1, ed, ed1, ee] at hr
    subst hr
    rw [show c + (2 + K) = c + 1 + 1 + K by omega]
    simpa [hc, hc2] using g
   ·refine ⟨i, 2, fun p c0 c h h0 hc hh hh2 => ?_⟩
    have ec : ¬ 0 = c := by omega
    have ec1 : ¬ 0 = c + 1 := by omega
    have ed : ¬ 1 = c := by omega
    have ed1 : ¬ 1 = c + 1 := by omega
    have ee : ¬ c = c + 1 := by omega
    have hc1 : c0 ≤ c + 1 := by omega
    obtain ⟨q, v, uu⟩ := x
    obtain ⟨q', v', uu'⟩ := y
    unfold rsqFr
    rw [rd_15_4]
    generalize hr : execW E 15 p _ _ _ _ = e
    by_cases e1 : q = q'
    ·subst e1
     by_cases e2 : v = v'
     ·subst e2
      have e3 : ¬ uu = uu' := fun e => hxy (by rw [e])
      simp -implicitDefEqProofs (maxSteps := 1000000) [Tryz.f15, Code.loopAt, Code.key, h1, hlt, hlt2, hx, hy, hgx', hgy', hl1, hl2, hw, hh, hh2, encQ, ec, ec1, ed, ed1, ee, e3] at hr
      subst hr
      simp [e3, hc, hc1]
     ·have e2' : ¬ (v : Int) = v' := by omega
      simp -implicitDefEqProofs (maxSteps := 1000000) [Tryz.f15, Code.loopAt, Code.key, h1, hlt, hlt2, hx, hy, hgx', hgy', hl1, hl2, hw, hh, hh2, encQ, ec, ec1, ed, ed1, ee, e2, e2'] at hr
      subst hr
      simp [e2, hc, hc1]
    ·have e1' : ¬ (q : Int) = q' := by omega
     simp -implicitDefEqProofs (maxSteps := 1000000) [Tryz.f15, Code.loopAt, Code.key, h1, hlt, hlt2, hx, hy, hgx', hgy', hl1, hl2, hw, hh, hh2, encQ, ec, ec1, ed, ed1, ee, e1, e1'] at hr
     subst hr
     simp [e1, hc, hc1]
open Classical in
theorem crsameSm_ok {a b : SummM} (hw : a.wf) (p : Id) (h : Heap) : callW E p 15 [.agg (encSumm a), .agg (encSumm b)] h = some (.bool (decide (a = b)), dropFrom p 0 h) := by
 have hll := fun e => rsq_loop (x := a) (y := b) hw.2.2.2.2.2.2.1 a.quants b.quants 0 e rfl rfl
 obtain ⟨l, st, ti, cn, su, qs, fl, u⟩ := a
 obtain ⟨l', st', ti', cn', su', qs', fl', u'⟩ := b
 obtain ⟨hl, hwl, _, _, _, _, hql, _, _, _⟩ := hw
 dsimp only at hll
 have hk := fun q h => rKeys_ok (l := l) (m := l') hl hwl q h
 unfold encSumm
 dsimp only
 rw [eq_15]
 by_cases e8 : l = l'
 ·subst e8
  by_cases e1 : st = st'
  ·subst e1
   by_cases e2 : ti = ti'
   ·subst e2
    by_cases e3 : cn = cn'
    ·subst e3
     by_cases e4 : su = su'
     ·subst e4
      by_cases eq : qs.length = qs'.length
      ·obtain ⟨i', K, g⟩ := hll eq
       have g := fun h => g p 3 3 h (by omega) (Nat.le_refl _)
       simp only [encSumm, rsqFr, nat0] at g
       have eq' : (qs.length : Int) = qs'.length := by omega
       by_cases e5 : fl = fl'
       ·subst e5
        by_cases e6 : u = u'
        ·subst e6
         by_cases e7 : qs = qs'
         ·subst e7
          simp -implicitDefEqProofs (maxSteps := 1000000) [Tryz.f15, Code.hide, Code.key, hk, g]
         ·simp -implicitDefEqProofs (maxSteps := 1000000) [Tryz.f15, Code.hide, Code.key, hk, g, e7, eq']
        ·simp -implicitDefEqProofs (maxSteps := 1000000) [Tryz.f15, Code.hide, Code.key, hk, e6, eq']
       ·have e5' : ¬ ((fl : Int) = fl') := by omega
        simp -implicitDefEqProofs (maxSteps := 1000000) [Tryz.f15, Code.hide, Code.key, hk, e5, e5', eq']
      ·have eq' : ¬ ((qs.length : Int) = qs'.length) := by omega
       have e7 : ¬ qs = qs' := fun e => eq (by rw [e])
       simp -implicitDefEqProofs (maxSteps := 1000000) [Tryz.f15, Code.hide, Code.key, hk, eq', e7]
     ·have e4' : ¬ ((su : Int) = su') := by omega
      simp -implicitDefEqProofs (maxSteps := 1000000) [Tryz.f15, Code.hide, Code.key, hk, e4, e4']
    ·have e3' : ¬ ((cn : Int) = cn') := by omega
     simp -implicitDefEqProofs (maxSteps := 1000000) [Tryz.f15, Code.hide, Code.key, hk, e3, e3']
   ·have e2' : ¬ ((ti : Int) = ti') := by omega
    simp -implicitDefEqProofs (maxSteps := 1000000) [Tryz.f15, Code.hide, Code.key, hk, e2, e2']
  ·have e1' : ¬ ((st : Int) = st') := by omega
   simp -implicitDefEqProofs (maxSteps := 1000000) [Tryz.f15, Code.hide, Code.key, hk, e1, e1']
 ·simp -implicitDefEqProofs (maxSteps := 1000000) [Tryz.f15, Code.hide, Code.key, hk, e8]
end Go.Ai.T

namespace Go.Ai.T
open Go Go.Proofs
set_option maxRecDepth 100000
set_option maxHeartbeats 4000000
theorem roomKs_sz : ∀ {l : List KV} {d r : Int}, -1 ≤ r → 0 ≤ roomKs l d r → (KV.szs l : Int) ≤ r - roomKs l d r
 | [], d, r, _, h => by rw [roomKs, KV.szs]; simp
 | x :: xs, d, r, hr, h => by
  rw [roomKs] at h ⊢
  split at h
  ·rename_i h0
   rw [if_pos h0, KV.szs]
   have hle := room_le.2 x d r hr
   have i2 := roomKs_sz (l := xs) (d := d) hle.1 h
   have h3 : 0 ≤ roomKV x d r := roomKs_pos h
   have i1 := room_sz.2 x d r hr h3
   omega
  ·omega
theorem roomQs_pos : ∀ {l : List Quant} {r : Int}, 0 ≤ roomQs l r → 0 ≤ r
 | [], r, h => h
 | x :: xs, r, h => by
  rw [roomQs] at h
  split at h <;> omega
theorem roomQs_sz : ∀ {l : List Quant} {r : Int}, -1 ≤ r → 0 ≤ roomQs l r → (Quant.szs l : Int) ≤ 3 * (r - roomQs l r)
 | [], r, _, h => by rw [roomQs, Quant.szs]; simp
 | x :: xs, r, hr, h => by
  rw [roomQs] at h ⊢
  split at h
  ·rename_i h0
   rw [if_pos h0, Quant.szs]
   have hle := takeR_le (room := r) (n := x.unk.length) hr (by omega)
   have i2 := roomQs_sz (l := xs) hle.1 h
   have h3 : 0 ≤ takeR r x.unk.length := roomQs_pos h
   have i1 := takeR_ge h3
   unfold Quant.sz
   omega
  ·omega
theorem roomSm_sz {x : SummM} (h : 0 ≤ roomSm x 12000) : x.sz ≤ 36060 := by
 unfold roomSm at h
 rw [roomK_eq, if_neg (by omega)] at h
 have t3 := takeR_le (room := 12000) (n := x.unk.length) (by omega) (by omega)
 have t4 := roomQs_le (l := x.quants) t3.1
 have k := roomKs_sz t4.1 h
 have h4 := roomKs_pos h
 have kq := roomQs_sz t3.1 h4
 have h3 := roomQs_pos h4
 have e3 := takeR_ge h3
 unfold SummM.sz
 omega
theorem _root_.Go.Ai.SummM.wf.len {x : SummM} (h : x.wf) : x.attrs.length ≤ maxStr := h.1
theorem _root_.Go.Ai.SummM.wf.qlen {x : SummM} (h : x.wf) : x.quants.length ≤ maxStr := h.2.2.2.2.2.2.1
theorem _root_.Go.Ai.SummM.wf.ulen {x : SummM} (h : x.wf) : x.unk.length ≤ maxStr := h.2.2.2.2.2.2.2.2.2
theorem zero_wfSm : summ0.wf := by simp [SummM.wf, summ0, maxStr]
end Go.Ai.T

namespace Go.Ai.T
open Go Go.Proofs
set_option maxRecDepth 100000
set_option maxHeartbeats 4000000
theorem kone_ok {x : Quant} (hw : x.wf) (hs : x.sz ≤ 549755813000) {d : Int} (p : Id) (h : Heap) : callW E p 49 [.agg (encQ x), .int .i64 d] h = some (.tuple [.str (writeQ x), .nili], dropFrom p 0 h) := by
 obtain ⟨q, v, u⟩ := x
 obtain ⟨hq, hv, hu⟩ := hw
 dsimp only at hq hv hu
 unfold Quant.sz at hs
 dsimp only at hs
 have hbn : ∀ id, bld id none = [.nilp, .nils] := fun _ => rfl
 have b1 := fixB_le (num := 1) (n := q) (by omega)
 have b2 := fixB_le (num := 2) (n := v) (by omega)
 have l1 := optB_le (num := 1) (n := q) (by omega)
 have l2 := optB_le (num := 2) (n := v) (by omega)
 have g1 := fun k h (hne : 1 ≠ k) hh => xfixed_ok (id := 1 :: p) (o := none) (num := 1) (n := q) (by omega) (by omega) hq (by simp; omega) (p := k :: p) (Apart.own hne) (h := h) hh
 have ho1 : (orW none (decide (0 < q)) (fixB 1 q)).getD [] = optB 1 q := by rw [orW_opt]; rfl
 generalize orW none (decide (0 < q)) (fixB 1 q) = o1 at *
 have g2 := fun k h (hne : 1 ≠ k) hh => xfixed_ok (id := 1 :: p) (o := o1) (num := 2) (n := v) (by omega) (by omega) hv (by rw [ho1]; omega) (p := k :: p) (Apart.own hne) (h := h) hh
 have ho2 : (orW o1 (decide (0 < v)) (fixB 2 v)).getD [] = optB 1 q ++ optB 2 v := by rw [orW_opt, ho1]
 generalize orW o1 (decide (0 < v)) (fixB 2 v) = o2 at *
 have g5 := fun k h (hne : 1 ≠ k) hh => xraw_ok (id := 1 :: p) (o := o2) (s := u) (by rw [ho2]; simp only [List.length_append]; omega) (p := k :: p) (Apart.own hne) (h := h) hh
 have g6 := fun k h (hne : 1 ≠ k) hh => xstring_ok (id := 97 :: 1 :: p) (o := some (o2.getD [] ++ u)) (by rw [Option.getD_some, List.length_append, ho2]; simp only [List.length_append]; unfold maxStr; omega) (p := k :: p) (Apart.own hne) (h := h) hh
 simp only [nl1, nl2, hbn, Option.getD_some, ho2, List.append_assoc] at g1 g2 g5 g6
 unfold encQ writeQ
 dsimp only
 rw [eq_49]
 simp -implicitDefEqProofs (maxSteps := 1000000) [Tryz.f49, Code.key, g1, g2, g5, g6]
theorem kreadOne_ok {s : List UInt8} (hb : s.length ≤ 549755813888) {d : Int} (hd : d ≤ 9223372036854775807) (p : Id) (h : Heap) : callW E p 32 [.str s, .int .i64 d] h = some (.tuple [.agg (encQ (readQ s d).1), encO (readQ s d).2], dropFrom p 0 h) := by
 obtain ⟨hf1, hf2, hf3, hf4⟩ := readE_facts (s := s) (d := d) (t := takesQ)
 obtain ⟨H, g, gH, gD⟩ := mread_ok (s := s) (by omega) hd (t := takesQ) ktakesOne_ok (1 :: p) (upd h (52 :: 0 :: p) [.int .u64 0, .int .u64 0, .str []])
 have gr : H (52 :: 0 :: p) = some [.int .u64 0, .int .u64 0, .str []] := by
  have e1 := congrFun gD (52 :: 0 :: p)
  simpa using e1
 have gD' : dropFrom p 0 H = dropFrom p 0 h := by
  have e1 := congrArg (dropFrom p 0) gD
  simpa using e1
 have ne1 : ∀ t k, ¬ (t :: k :: p) = (68 :: 0 :: 1 :: p) := fun t k e => by have := congrArg List.length e; simp at this
 have ux : ∀ (h : Heap) (cs : List A) (t k : Nat), upd h (68 :: 0 :: 1 :: p) cs (t :: k :: p) = h (t :: k :: p) := fun h cs t k => by simp only [upd, if_neg (ne1 t k)]
 have ux2 : ∀ (h : Heap) (cs : List A) (t k : Nat), upd h (t :: k :: p) cs (68 :: 0 :: 1 :: p) = h (68 :: 0 :: 1 :: p) := fun h cs t k => by simp only [upd, if_neg (Ne.symm (ne1 t k))]
 have udr : ∀ (k : Nat) (h : Heap), 1 ≠ k → dropFrom (k :: p) 0 h (68 :: 0 :: 1 :: p) = h (68 :: 0 :: 1 :: p) := fun k h hk => drop_other ((Apart.own2 hk).at_ 0)
 unfold readQ
 dsimp only
 have g5 := fun k (hk : 1 ≠ k) h hh => mfixed_ok (num := 1) (rs := (readE s d takesQ).recs) (by omega) (e0 := encO (readE s d takesQ).err) (u := .str (readE s d takesQ).unk) (dd := .int .i64 d) (en := .int .i64 s.length) (p := k :: p) (id := 68 :: 0 :: 1 :: p) (Apart.own2 hk) (h := h) hh
 have g6 := fun k (hk : 1 ≠ k) h hh => mfixed_ok (num := 2) (rs := (readE s d takesQ).recs) (by omega) (e0 := encO (readE s d takesQ).err) (u := .str (readE s d takesQ).unk) (dd := .int .i64 d) (en := .int .i64 s.length) (p := k :: p) (id := 68 :: 0 :: 1 :: p) (Apart.own2 hk) (h := h) hh
 generalize readE s d takesQ = m at *
 simp only [mrdM, mrd, nl1, nl2] at g gH g5 g6 gr ⊢
 generalize hme : m.err = me at *
 rw [eq_32]
 cases me with
 | none =>
  simp only [encO_none, encQ] at *
  simp -implicitDefEqProofs (maxSteps := 1000000) [Tryz.f32, Code.hide, Code.key, g, gH, gr, ux, ux2, udr, g5, g6, drop_upd_under, under2, gD', sameAt, beqL_refl]
 | some e =>
  simp only [encO_some, encQ] at *
  simp -implicitDefEqProofs (maxSteps := 1000000) [Tryz.f32, Code.hide, Code.key, g, gH, gr, ux, ux2, udr, g5, g6, drop_upd_under, under2, gD', sameAt, beqL_refl]
theorem cmaySm_ok {x : SummM} (hw : x.wf) (hs : x.sz ≤ 549755813888) {d : Int} (hd1 : -9223372036854775808 ≤ d) (hd : d ≤ 9223372036854775807) (p : Id) (h : Heap) : callW E p 21 [.agg (encSumm x), .int .i64 d] h = some (.bool (maySm x d), dropFrom p 0 h) := by
 obtain ⟨l, st, ti, cn, su, qs, fl, u⟩ := x
 obtain ⟨hl, hwl, h1, h2, h3, h4, hql, hqw, hfl, hu⟩ := hw
 dsimp only at hl hwl h1 h2 h3 h4 hql hqw hfl hu
 unfold SummM.sz at hs
 dsimp only at hs
 have g4 := fun q h => rest_ok (s := u) (by omega) hd ktakes_ok q h
 unfold maySm encSumm
 dsimp only
 rw [eq_21]
 by_cases h0 : d < 0
 ·have h0' : ¬ 0 ≤ d := by omega
  have e : decide (0 ≤ d) = false := by simp; omega
  rw [e]
  simp -implicitDefEqProofs (maxSteps := 1000000) [Tryz.f21, Code.key, h0, h0']
 have h0' : 0 ≤ d := by omega
 have e : decide (0 ≤ d) = true := by simp; omega
 have hwd : IntKind.i64.wrap (d - 1) = d - 1 := wrap_i64 (by omega) (by omega)
 have g3 := fun q h => mayKs_ok hl hwl (fun a ha => by have := KV.szs_mem ha; omega) (d := d - 1) (by omega) (by omega) q h
 have g2 := fun q h => allQ_ok hql (fun a ha => by have := Quant.szs_mem ha; omega) (d := d) (by omega) (by omega) q h
 rw [e]
 generalize mayKs l (d - 1) = t3 at *
 generalize (qs.all fun q => mayQ q (d - 1)) = t2 at *
 generalize restE takesSm u d = t4 at *
 cases t2 with
 | false => simp -implicitDefEqProofs (maxSteps := 1000000) [Tryz.f21, Code.key, h0, h0', g2, hwd]
 | true =>
  cases t3 with
  | false => simp -implicitDefEqProofs (maxSteps := 1000000) [Tryz.f21, Code.key, h0, h0', g2, g3, hwd]
  | true => simp -implicitDefEqProofs (maxSteps := 1000000) [Tryz.f21, Code.key, h0, h0', g2, g3, g4, hwd]
theorem marKs_all {l : List KV} {d : Int} (hd : d ≤ 9223372036854775807) (hw : ∀ x ∈ l, x.wf) (hs : KV.szs l ≤ 549755813888) (hm : mayKs l (d - 1) = true) : ∀ x ∈ l, ∀ (q : Id) (h : Heap), callW E q 51 [.agg (encK x), .int .i64 (d - 1)] h = some (.tuple [.str (writeK x), .nili], dropFrom q 0 h) := by
 intro x hx q h
 have := marK_ok (hw x hx) (by have := KV.szs_mem hx; omega) (d := d - 1) (by omega) q h
 rw [mayKs_all, List.all_eq_true] at hm
 rw [hm x hx] at this
 simpa only [marE, if_true, encO_none] using this
theorem cmarSm_ok {x : SummM} (hw : x.wf) (hs : x.sz ≤ 549755813000) {d : Int} (hd1 : -9223372036854775808 ≤ d) (hd : d ≤ 9223372036854775807) (p : Id) (h : Heap) :
  callW E p 20 [.agg (encSumm x), .int .i64 d] h = some (.tuple [.str (marE (maySm x d) (writeSm x)).1, encO (marE (maySm x d) (writeSm x)).2], dropFrom p 0 h) := by
 have g := fun q h => cmaySm_ok hw (by omega) hd1 hd q h
 have hlen := writeSm_le hw (by omega)
 obtain ⟨l, st, ti, cn, su, qs, fl, u⟩ := x
 obtain ⟨hl, hwl, h1, h2, h3, h4, hql, hqw, hfl, hu⟩ := hw
 dsimp only at hl hwl h1 h2 h3 h4 hql hqw hfl hu
 unfold SummM.sz at hs hlen
 dsimp only at hs hlen
 unfold encSumm at g ⊢
 dsimp only at g ⊢
 cases hm : maySm ⟨l, st, ti, cn, su, qs, fl, u⟩ d with
 | false =>
  rw [hm] at g
  rw [eq_20]
  simp -implicitDefEqProofs (maxSteps := 1000000) [Tryz.f20, Code.key, g, marE, encE_code]
 | true =>
  rw [hm] at g
  unfold maySm at hm
  simp only [Bool.and_eq_true, decide_eq_true_eq] at hm
  obtain ⟨⟨⟨h0, _⟩, hmk⟩, _⟩ := hm
  unfold writeSm at hlen ⊢
  simp only [List.length_append] at hlen
  dsimp only at hlen hmk ⊢
  have b2 := fixB_le (num := 2) (n := st) (by omega)
  have b3 := fixB_le (num := 3) (n := ti) (by omega)
  have b4 := fixB_le (num := 4) (n := cn) (by omega)
  have b5 := fixB_le (num := 5) (n := su) (by omega)
  have b8 := numB_le (num := 8) (by omega) (n := fl) (by omega)
  have hbn : ∀ id, bld id none = [.nilp, .nils] := fun _ => rfl
  have hcv : IntKind.u64.wrap (fl : Int) = fl := wrap_u64 (by omega) (by omega)
  have g1 := fun k h (hne : 2 ≠ k) hh => xfixed_ok (id := 2 :: p) (o := none) (num := 2) (n := st) (by omega) (by omega) h1 (by simp; omega) (p := k :: p) (Apart.own hne) (h := h) hh
  have ho1 : (orW none (decide (0 < st)) (fixB 2 st)).getD [] = optB 2 st := by rw [orW_opt]; rfl
  generalize orW none (decide (0 < st)) (fixB 2 st) = o1 at *
  have g2 := fun k h (hne : 2 ≠ k) hh => xfixed_ok (id := 2 :: p) (o := o1) (num := 3) (n := ti) (by omega) (by omega) h2 (by rw [ho1]; omega) (p := k :: p) (Apart.own hne) (h := h) hh
  have ho2 : (orW o1 (decide (0 < ti)) (fixB 3 ti)).getD [] = optB 2 st ++ optB 3 ti := by rw [orW_opt, ho1]
  generalize orW o1 (decide (0 < ti)) (fixB 3 ti) = o2 at *
  have g3 := fun k h (hne : 2 ≠ k) hh => xfixed_ok (id := 2 :: p) (o := o2) (num := 4) (n := cn) (by omega) (by omega) h3 (by rw [ho2]; simp only [List.length_append]; omega) (p := k :: p) (Apart.own hne) (h := h) hh
  have ho3 : (orW o2 (decide (0 < cn)) (fixB 4 cn)).getD [] = optB 2 st ++ optB 3 ti ++ optB 4 cn := by rw [orW_opt, ho2]
  generalize orW o2 (decide (0 < cn)) (fixB 4 cn) = o3 at *
  have g4 := fun k h (hne : 2 ≠ k) hh => xfixed_ok (id := 2 :: p) (o := o3) (num := 5) (n := su) (by omega) (by omega) h4 (by rw [ho3]; simp only [List.length_append]; omega) (p := k :: p) (Apart.own hne) (h := h) hh
  have ho4 : (orW o3 (decide (0 < su)) (fixB 5 su)).getD [] = optB 2 st ++ optB 3 ti ++ optB 4 cn ++ optB 5 su := by rw [orW_opt, ho3]
  generalize orW o3 (decide (0 < su)) (fixB 5 su) = o4 at *
  obtain ⟨o5, ho5, g5⟩ := partsq_ok (f := 49) (num := 6) (by omega) (by omega) (d := d) (by omega) hd hql (fun x hx q h => kone_ok (hqw x hx) (by have := Quant.szs_mem hx; omega) q h) (o := o4) (by rw [ho4]; simp only [List.length_append]; omega)
  have g5 := fun k h (hne : 2 ≠ k) hh => g5 (k :: p) (2 :: p) (Apart.own hne) h hh
  rw [ho4] at ho5
  obtain ⟨o6, ho6, g6⟩ := parts_ok (f := 51) (num := 7) (by omega) (by omega) (d := d) (by omega) hd hl (marKs_all hd hwl (by omega) hmk) (o := o5) (by rw [ho5]; simp only [List.length_append]; omega)
  have g6 := fun k h (hne : 2 ≠ k) hh => g6 (k :: p) (2 :: p) (Apart.own hne) h hh
  rw [ho5] at ho6
  have g7 := fun k h (hne : 2 ≠ k) hh => xvar_ok (id := 2 :: p) (o := o6) (num := 8) (n := fl) (by omega) (by omega) (by omega) (by rw [ho6]; simp only [List.length_append]; omega) (p := k :: p) (Apart.own hne) (h := h) hh
  have ho7 : (orW o6 (decide (0 < fl)) (numB 8 fl)).getD [] = optB 2 st ++ optB 3 ti ++ optB 4 cn ++ optB 5 su ++ partsN 6 writeQ qs ++ partsN 7 writeK l ++ varB 8 fl := by rw [orW_var, ho6]
  generalize orW o6 (decide (0 < fl)) (numB 8 fl) = o7 at *
  have g8 := fun k h (hne : 2 ≠ k) hh => xraw_ok (id := 2 :: p) (o := o7) (s := u) (by rw [ho7]; simp only [List.length_append]; omega) (p := k :: p) (Apart.own hne) (h := h) hh
  have g9 := fun k h (hne : 2 ≠ k) hh => xstring_ok (id := 97 :: 2 :: p) (o := some (o7.getD [] ++ u)) (by rw [Option.getD_some, List.length_append, ho7]; simp only [List.length_append]; unfold maxStr; omega) (p := k :: p) (Apart.own hne) (h := h) hh
  have nl6 : ((6 : Nat) : Int) = 6 := rfl
  have nl7 : ((7 : Nat) : Int) = 7 := rfl
  have nl8 : ((8 : Nat) : Int) = 8 := rfl
  simp only [nl2, nl3, nl4, nl5, nl6, nl7, nl8, hbn, Option.getD_some, ho7, List.append_assoc] at g1 g2 g3 g4 g5 g6 g7 g8 g9
  rw [eq_20]
  simp -implicitDefEqProofs (maxSteps := 1000000) [Tryz.f20, Code.key, g, g1, g2, g3, g4, g5, g6, g7, g8, g9, hcv, marE]
theorem csizeSm_ok {x : SummM} (hw : x.wf) (hs : x.sz ≤ 549755813000) (p : Id) (h : Heap) : callW E p 23 [.agg (encSumm x)] h = some (.int .i64 (marE (maySm x 1073741824) (writeSm x)).1.length, dropFrom p 0 h) := by
 have g := fun q h => cmarSm_ok hw hs (d := 1073741824) (by omega) (by omega) q h
 generalize marE (maySm x 1073741824) (writeSm x) = m at *
 obtain ⟨w, e⟩ := m
 simp only [encSumm] at g ⊢
 rw [eq_23]
 simp -implicitDefEqProofs (maxSteps := 1000000) [Tryz.f23, Code.key, g]
def zSumm : List A := [.nils, .int .u64 0, .int .u64 0, .int .u64 0, .int .u64 0, .nils, .int .u32 0, .str []]
theorem cunmSm_ok {s : List UInt8} (hb : s.length ≤ 549755813888) {d : Int} (hd : d ≤ 9223372036854775807) (p : Id) (h : Heap) :
  callW E p 12 [.str s, .int .i64 d] h = some (.tuple [.agg (encSumm (readSm s d).1), encO (readSm s d).2], dropFrom p 0 h) := by
 obtain ⟨hf1, hf2, hf3, hf4⟩ := readE_facts (s := s) (d := d) (t := takesSm)
 obtain ⟨H, g, gH, gD⟩ := mread_ok (s := s) (by omega) hd (t := takesSm) ktakes_ok (1 :: p) (upd h (28 :: 0 :: p) zSumm)
 have hr : ∀ r ∈ (readE s d takesSm).recs, ∀ (q : Id) (h : Heap), callW E q 29 [.str r.s, .int .i64 (d - 1)] h = some (.tuple [.agg (encK (readK r.s (d - 1)).1), encO (readK r.s (d - 1)).2], dropFrom q 0 h) :=
  fun r hr q h => (unm_all _ (d - 1) (Nat.le_refl _) (by omega) r.s (by have := hf2 r hr; omega)).2 q h
 have hrq : ∀ r ∈ (readE s d takesSm).recs, ∀ (q : Id) (h : Heap), callW E q 32 [.str r.s, .int .i64 (d - 1)] h = some (.tuple [.agg (encQ (readQ r.s (d - 1)).1), encO (readQ r.s (d - 1)).2], dropFrom q 0 h) :=
  fun r hr q h => kreadOne_ok (by have := hf2 r hr; omega) (by omega) q h
 have g2 := fun k (hk : 1 ≠ k) h hh => listK_ok (f := 29) (rd := fun t => readK t (d - 1)) (num := 7) hf3 hd (by omega) hr (e0 := (readE s d takesSm).err) (u := .str (readE s d takesSm).unk) (en := s.length) (p := k :: p) (id := 68 :: 0 :: 1 :: p) (Apart.own2 hk) (h := h) hh
 have gr : H (28 :: 0 :: p) = some zSumm := by
  have e1 := congrFun gD (28 :: 0 :: p)
  simpa using e1
 have gD' : dropFrom p 0 H = dropFrom p 0 h := by
  have e1 := congrArg (dropFrom p 0) gD
  simpa using e1
 have ne1 : ∀ t k, ¬ (t :: k :: p) = (68 :: 0 :: 1 :: p) := fun t k e => by have := congrArg List.length e; simp at this
 have ux : ∀ (h : Heap) (cs : List A) (t k : Nat), upd h (68 :: 0 :: 1 :: p) cs (t :: k :: p) = h (t :: k :: p) := fun h cs t k => by simp only [upd, if_neg (ne1 t k)]
 have ux2 : ∀ (h : Heap) (cs : List A) (t k : Nat), upd h (t :: k :: p) cs (68 :: 0 :: 1 :: p) = h (68 :: 0 :: 1 :: p) := fun h cs t k => by simp only [upd, if_neg (Ne.symm (ne1 t k))]
 have udr : ∀ (k : Nat) (h : Heap), 1 ≠ k → dropFrom (k :: p) 0 h (68 :: 0 :: 1 :: p) = h (68 :: 0 :: 1 :: p) := fun k h hk => drop_other ((Apart.own2 hk).at_ 0)
 have hw32 := wrap_u32_nat (lastR 8 (readE s d takesSm).recs).n
 unfold readSm
 dsimp only
 generalize hy : listR (fun t => readK t (d - 1)) s.length 7 (readE s d takesSm).err (readE s d takesSm).recs = y at *
 have m2 := fun k (hk : 1 ≠ k) h hh => mfixed_ok (num := 2) (rs := (readE s d takesSm).recs) (by omega) (e0 := encO y.2) (u := .str (readE s d takesSm).unk) (dd := .int .i64 d) (en := .int .i64 s.length) (p := k :: p) (id := 68 :: 0 :: 1 :: p) (Apart.own2 hk) (h := h) hh
 have m3 := fun k (hk : 1 ≠ k) h hh => mfixed_ok (num := 3) (rs := (readE s d takesSm).recs) (by omega) (e0 := encO y.2) (u := .str (readE s d takesSm).unk) (dd := .int .i64 d) (en := .int .i64 s.length) (p := k :: p) (id := 68 :: 0 :: 1 :: p) (Apart.own2 hk) (h := h) hh
 have m4 := fun k (hk : 1 ≠ k) h hh => mfixed_ok (num := 4) (rs := (readE s d takesSm).recs) (by omega) (e0 := encO y.2) (u := .str (readE s d takesSm).unk) (dd := .int .i64 d) (en := .int .i64 s.length) (p := k :: p) (id := 68 :: 0 :: 1 :: p) (Apart.own2 hk) (h := h) hh
 have m5 := fun k (hk : 1 ≠ k) h hh => mfixed_ok (num := 5) (rs := (readE s d takesSm).recs) (by omega) (e0 := encO y.2) (u := .str (readE s d takesSm).unk) (dd := .int .i64 d) (en := .int .i64 s.length) (p := k :: p) (id := 68 :: 0 :: 1 :: p) (Apart.own2 hk) (h := h) hh
 have g3 := fun k (hk : 1 ≠ k) h hh => listQ_ok (f := 32) (rd := fun t => readQ t (d - 1)) (num := 6) hf3 hd (by omega) hrq (e0 := y.2) (u := .str (readE s d takesSm).unk) (en := s.length) (p := k :: p) (id := 68 :: 0 :: 1 :: p) (Apart.own2 hk) (h := h) hh
 generalize hz : listR (fun t => readQ t (d - 1)) s.length 6 y.2 (readE s d takesSm).recs = z at *
 have m8 := fun k (hk : 1 ≠ k) h hh => mfixed_ok (num := 8) (rs := (readE s d takesSm).recs) (by omega) (e0 := encO z.2) (u := .str (readE s d takesSm).unk) (dd := .int .i64 d) (en := .int .i64 s.length) (p := k :: p) (id := 68 :: 0 :: 1 :: p) (Apart.own2 hk) (h := h) hh
 generalize readE s d takesSm = m at *
 obtain ⟨yl, ye⟩ := y
 obtain ⟨zl, ze⟩ := z
 have nl6 : ((6 : Nat) : Int) = 6 := rfl
 have nl7 : ((7 : Nat) : Int) = 7 := rfl
 have nl8 : ((8 : Nat) : Int) = 8 := rfl
 simp only [mrdM, mrd, nl2, nl3, nl4, nl5, nl6, nl7, nl8, zSumm] at g gH g2 g3 m2 m3 m4 m5 m8 gr ⊢
 rw [eq_12]
 cases ze with
 | none =>
  simp only [encO_none, orNone, encSumm] at *
  simp -implicitDefEqProofs (maxSteps := 1000000) [Tryz.f12, Code.hide, Code.key, g, gH, gr, ux, ux2, udr, g2, g3, m2, m3, m4, m5, m8, hw32, drop_upd_under, under2, gD', sameAt, beqL_refl]
 | some e =>
  simp only [encO_some, orNone, encSumm, summ0] at *
  simp -implicitDefEqProofs (maxSteps := 1000000) [Tryz.f12, Code.hide, Code.key, g, gH, gr, ux, ux2, udr, g2, g3, m2, m3, m4, m5, m8, hw32, drop_upd_under, under2, gD', sameAt, beqL_refl]
def sqA : SummM := ⟨[], 0, 0, 0, 0, [⟨0, 0, []⟩], 0, []⟩
theorem sqA_w : writeSm sqA = [50, 0] := by
 have h1 : putV 50 = [50] := putV_small (by omega)
 have h2 : putV 0 = [0] := putV_small (by omega)
 simp [writeSm, sqA, optB, partsN, varB, bytesR, bytesB, tagB, writeQ, h1, h2]
theorem sqA_wf : sqA.wf := by simp [sqA, SummM.wf, Quant.wf, maxStr]
theorem sqA_may : maySm sqA 1 = true := by
 simp [sqA, maySm, mayQ, mayKs, restE_nil]
theorem sqA_r : ∃ e : Err, (readSm [50, 0] 0) = (summ0, some e) ∧ e.codeOf = 6 := by
 have h1 : putV 50 = [50] := putV_small (by omega)
 have h2 : putV 0 = [0] := putV_small (by omega)
 have hr := readE_of (t := takesSm) (d := 0) (by omega) (ks := [bytesR 6 []]) (u := []) (by
  intro r hr
  rw [List.mem_singleton] at hr
  subst hr
  exact ⟨bytesR_ok (by omega) (by omega) (by simp), rfl⟩) restE_nil
 have e : rawsR [bytesR 6 []] ++ [] = [50, 0] := by simp [rawsR, bytesR, bytesB, tagB, h1, h2]
 rw [e] at hr
 refine ⟨failE 2 6 (.at_ 0 (.fld 0 (.code 6))), ?_, rfl⟩
 unfold readSm
 rw [hr]
 simp [listR, bytesR, readQ, readE, failO, orNone]
theorem first15_ok (p : Id) (h : Heap) : callW E p 11 [] h = some (.bool true, dropFrom p 0 h) := by
 obtain ⟨e, he, hc⟩ := sqA_r
 have g1 := fun q h => cmarSm_ok sqA_wf (by simp [sqA, SummM.sz, KV.szs, Quant.szs, Quant.sz]) (d := 1) (by omega) (by omega) q h
 have g2 := fun q h => cunmSm_ok (s := [50, 0]) (by simp) (d := 0) (by omega) q h
 have g3 := fun q h => code_ok e q h
 rw [sqA_may, sqA_w] at g1
 rw [he] at g2
 rw [hc] at g3
 obtain ⟨t1, a1, hy1⟩ := encE_iface e
 simp only [marE, if_true, sqA, encSumm, encQ, List.map_nil, List.map_cons, encO_none, encO_some, nat0, nl1, hy1, summ0] at g1 g2 g3
 rw [eq_11]
 simp -implicitDefEqProofs (maxSteps := 1000000) [Tryz.f11, Code.key, g1, g2, g3]
end Go.Ai.T

