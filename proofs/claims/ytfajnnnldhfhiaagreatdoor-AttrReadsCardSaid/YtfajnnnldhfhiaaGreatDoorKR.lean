/- Part KR of the proof that a law of this program answers yes at every input: no conditions beyond the given statement. -/
import Derived.Test.YtfajnnnldhfhiaaGreatDoorKE
import Derived.Test.YtfajnnnldhfhiaaGreatDoorKM
import Derived.Test.YtfajnnnldhfhiaaGreatDoorKH
import Derived.Test.YtfajnnnldhfhiaaGreatDoorKJ
import Derived.Test.YtfajnnnldhfhiaaGreatDoorKG
import Derived.Test.YtfajnnnldhfhiaaGreatDoorKI
import Derived.Test.YtfajnnnldhfhiaaGreatDoorKD
import Derived.Test.YtfajnnnldhfhiaaGreatDoorKT
set_option linter.unusedSimpArgs false
set_option linter.unusedVariables false
set_option linter.all false
namespace Go.Ai.T
open Go Go.Proofs
set_option maxRecDepth 100000
set_option maxHeartbeats 4000000
theorem allE_lens {s : List UInt8} {d : Int} {rs : List Rec} (h : allE s d 0 = .ok rs) : rs.length ≤ s.length ∧ rawLen rs ≤ s.length ∧ (∀ r ∈ rs, r.s.length ≤ s.length) ∧ ∀ r ∈ rs, r.kind < 8 := by
 have h1 := allE_raw 0 (Nat.zero_le _) rs h
 have h2 := allE_short 0 (Nat.zero_le _) rs h
 have h3 := allE_mem 0 (Nat.zero_le _) rs h
 exact ⟨by omega, by omega, h2, fun r hr => (h3 r hr).2.2.1⟩
def auFr (d : Int) (rs : List Rec) (acc : List KV) (k i : Nat) : Fr := (((((((bot.set 25 (.int .i64 i)).set 24 (.int .i64 rs.length)).set 23 (.slice (recsA rs) none)).set 9 (.int .i64 k)).set 8 (growing (38, 11) (acc.map encK))).set 5 .nili).set 4 .nils).set 1 (.int .i64 d)
theorem au_loop {d : Int} (hd : d ≤ 9223372036854775807) {rs : List Rec} (hn : rs.length ≤ 549755813888)
  (hread : ∀ r ∈ rs, ∀ (q : Id) (h : Heap), callW E q 13 [.str r.s, .int .i64 d] h = some (.tuple [.agg (encK (readK r.s d).1), encO (readK r.s d).2], dropFrom q 0 h)) {p : Id} :
  ∀ (rest : List Rec) (i k : Nat) (acc : List KV) (c0 c : Nat) (h : Heap), rs.drop i = rest → i ≤ rs.length → acc.length ≤ i → k + rawLen rest ≤ 1099511627776 → c0 ≤ c →
  ∃ e fr' c', iterW E 5 p [1, 4, 5, 8, 9, 23, 24, 25] L_5_7 c0 (auFr d rs acc k i) c h = some (e, fr', c', dropFrom p c0 h) ∧
   ((unpL (fun t => readK t d) rest k acc).2 = none ∧ e = .exit 0 ∧ fr' 8 = growing (38, 11) ((unpL (fun t => readK t d) rest k acc).1.map encK) ∨
    ∃ x, (unpL (fun t => readK t d) rest k acc).2 = some x ∧ e = .ret ∧ fr' 4 = .nils ∧ fr' 5 = encE x) := by
 have hrl : (recsA rs).length = rs.length := by simp [recsA]
 intro rest
 induction rest with
 | nil =>
  intro i k acc c0 c h hj hi hx hk hc
  have hlt' : ¬ (i : Int) < rs.length := by have := drop_end hj; omega
  unfold auFr
  rw [rd_5_7]
  generalize hr : execW E 5 p _ _ _ _ = e
  simp -implicitDefEqProofs (maxSteps := 1000000) [Tryz.f5, Code.loopAt, Code.key, hlt'] at hr
  subst hr
  exact ⟨_, _, _, rfl, .inl ⟨rfl, rfl, by simp [unpL]⟩⟩
 | cons r rest ih =>
  intro i k acc c0 c h hj hi hx hk hc
  obtain ⟨hlt, hbb, hbs⟩ := drop_facts hj
  have hlt' : (i : Int) < rs.length := by omega
  have hw : IntKind.i64.wrap ((i : Int) + 1) = ((i + 1 : Nat) : Int) := by rw [wrap_i64 (by omega) (by omega)]; rfl
  have hget? : (recsA rs)[i]? = some (recCells r) := by simp [recsA, hbb]
  have hget : ∀ hl, (recsA rs)[i]'hl = recCells r := fun hl => by rw [List.getElem?_eq_getElem hl] at hget?; exact Option.some.inj hget?
  rw [rawLen_cons] at hk
  have hwk : IntKind.i64.wrap ((k : Int) + (r.raw.length : Int)) = ((k + r.raw.length : Nat) : Int) := by rw [wrap_i64 (by omega) (by omega)]; omega
  have hl1 : (acc.map encK).length = acc.length := by simp
  have hmax : acc.length + 1 ≤ maxStr := by unfold maxStr; omega
  have hmax2 : (acc.length + 1) * 160 ≤ 140737488355328 := by omega
  have hc1 : c0 ≤ c + 1 := by omega
  have hc2 : c0 ≤ c + 1 + 1 := by omega
  have g := hread r (List.mem_of_getElem? hbb)
  have ga := fun q h => at_ok k (.code 3) q h
  simp only [encE_code] at ga
  rw [unpL]
  unfold auFr
  rw [rd_5_7]
  by_cases e1 : r.num = 1
  ·by_cases e2 : r.kind = 2
   ·have ht : takesL r.num r.kind = true := by simp [takesL, e1, e2]
    rw [if_neg (by simp [ht])]
    cases hrr : (readK r.s d).2 with
    | some x =>
     have gx := fun q h => at_ok k x q h
     rw [if_pos (by simp)]
     rw [hrr] at g
     obtain ⟨t1, a1, hy⟩ := encE_iface x
     obtain ⟨cs, hcs, hst⟩ := flatK (readK r.s d).1
     rw [hcs] at g
     obtain ⟨ky, hs', k0', s0', b0', n0', l0', m0', i0', u0', uu, rfl⟩ := hst
     simp only [encO_some, hy] at g gx
     generalize hr : execW E 5 p _ _ _ _ = ee
     simp -implicitDefEqProofs (maxSteps := 1000000) [-Int.natCast_add, Tryz.f5, Code.loopAt, Code.key, recCells, hlt, hlt', hrl, hget?, hget, e1, e2, nl1, nl2, g, gx] at hr
     subst hr
     exact ⟨_, _, _, some4 (by first | (simp [hc, hc1, hc2]; done) | (simp -implicitDefEqProofs (disch := omega) only [own_du, drop_drop_cons, drop_upd, drop_drop, drop_drop_self, upd_upd, drop_upd_under, under2, hc, hc1, hc2]; done)), .inr ⟨.at_ k x, by simp, rfl, by simp, by simp⟩⟩
    | none =>
     rw [if_neg (by simp)]
     rw [hrr] at g
     obtain ⟨cs, hcs, hst⟩ := flatK (readK r.s d).1
     rw [hcs] at g
     obtain ⟨ky, hs', k0', s0', b0', n0', l0', m0', i0', u0', uu, rfl⟩ := hst
     simp only [encO_none] at g
     have hgl := fun (c : Nat) (h : Heap) (hc : c0 ≤ c) => ih (i + 1) (k + r.raw.length) (acc ++ [(readK r.s d).1]) c0 c h hbs (by omega) (by simp; omega) (by omega) hc
     generalize hr : execW E 5 p _ _ _ _ = ee
     simp -implicitDefEqProofs (maxSteps := 1000000) [-Int.natCast_add, Tryz.f5, Code.loopAt, Code.key, recCells, hlt, hlt', hrl, hget?, hget, e1, e2, nl1, nl2, g, hw, hwk, hmax, hmax2] at hr
     subst hr
     rw [← hcs]
     have e6 : A.slice (acc.map encK ++ [encK (readK r.s d).1]) (some (38, 11)) = growing (38, 11) ((acc ++ [(readK r.s d).1]).map encK) := by
      rw [slice_growing]; simp
     simp [-Int.natCast_add, -List.map_append]
     rw [e6]
     obtain ⟨e, fr', c', q1, q2⟩ := hgl (c + 1 + 1 + 1) (dropFrom p c0 h) (by omega)
     refine ⟨e, fr', ⟨c', ?_⟩, q2⟩
     rw [drop_drop_self] at q1
     rw [← q1]
     exact iterW_congr rfl rfl rfl (by simp -implicitDefEqProofs (disch := omega) only [own_du, drop_drop_cons, drop_upd, drop_drop, drop_drop_self, upd_upd, drop_upd_under, under2, hc, hc1, hc2])
   ·have ht : takesL r.num r.kind = false := by simp [takesL, e2]
    have e2' : ¬ (r.kind : Int) = 2 := by omega
    rw [if_pos ht]
    generalize hr : execW E 5 p _ _ _ _ = ee
    simp -implicitDefEqProofs (maxSteps := 1000000) [-Int.natCast_add, Tryz.f5, Code.loopAt, Code.key, recCells, hlt, hlt', hrl, hget?, hget, e1, e2, e2', nl1, ga] at hr
    subst hr
    exact ⟨_, _, _, some4 (by simp [hc, hc1, hc2]), .inr ⟨_, rfl, rfl, by simp, by simp⟩⟩
  ·have ht : takesL r.num r.kind = false := by simp [takesL, e1]
   have e1' : ¬ (r.num : Int) = 1 := by omega
   rw [if_pos ht]
   generalize hr : execW E 5 p _ _ _ _ = ee
   simp -implicitDefEqProofs (maxSteps := 1000000) [-Int.natCast_add, Tryz.f5, Code.loopAt, Code.key, recCells, hlt, hlt', hrl, hget?, hget, e1, e1', ga] at hr
   subst hr
   exact ⟨_, _, _, some4 (by simp [hc, hc1, hc2]), .inr ⟨_, rfl, rfl, by simp, by simp⟩⟩
theorem aunpack_ok {s : List UInt8} (hb : s.length ≤ 549755813888) {d : Int} (hd : d ≤ 9223372036854775807) (p : Id) (h : Heap) :
  callW E p 5 [.str s, .int .i64 d] h = some (.tuple [.slice ((unpE s d).1.map encK) none, encO (unpE s d).2], dropFrom p 0 h) := by
 have ga := fun q h => all_ok (s := s) (by omega) hd q h
 unfold unpE
 cases hv : allE s d 0 with
 | error x =>
  rw [hv] at ga
  obtain ⟨t1, a1, hy⟩ := encE_iface x
  simp only [encAll, hy] at ga
  rw [eq_5]
  simp only [encO_some, hy]
  simp -implicitDefEqProofs (maxSteps := 1000000) [Tryz.f5, Code.hide, Code.key, ga]
 | ok rs =>
  rw [hv] at ga
  simp only [encAll] at ga
  have hlen := allE_lens hv
  obtain ⟨e, fr', c', q1, q2⟩ := au_loop (p := p) hd (rs := rs) (by omega) (fun r hr q h => (unm_all _ d (Nat.le_refl _) hd r.s (by have := hlen.2.2.1 r hr; omega)).2 q h) rs 0 0 [] 1 1 (dropFrom (0 :: p) 0 h) rfl (Nat.zero_le _) (Nat.le_refl _) (by omega) (Nat.le_refl _)
  have hrl : (recsA rs).length = rs.length := by simp [recsA]
  simp only [auFr, nat0, List.map_nil, growing_nil] at q1
  dsimp only
  rw [eq_5]
  rcases q2 with ⟨q3, rfl, q4⟩ | ⟨x, q3, rfl, q4, q5⟩
  ·rw [q3]
   simp only [encO_none]
   simp -implicitDefEqProofs (maxSteps := 1000000) [Tryz.f5, Code.hide, Code.key, ga, hrl, q1, q4]
  ·have q6 := unpL_bad _ _ _ _ _ q3
   rw [q3, q6]
   obtain ⟨t1, a1, hy⟩ := encE_iface x
   rw [hy] at q5
   simp only [encO_some, hy]
   simp -implicitDefEqProofs (maxSteps := 1000000) [Tryz.f5, Code.hide, Code.key, ga, hrl, q1, q4, q5]
end Go.Ai.T

namespace Go.Ai.T
open Go Go.Proofs
set_option maxRecDepth 100000
set_option maxHeartbeats 4000000
theorem tabLL (num kind : Nat) : tabR [10] num kind = takesL num kind := by
 unfold tabR takesL
 simp only [List.any_cons, List.any_nil, Bool.or_false]
 rw [Bool.eq_iff_iff]; simp; omega
def arFr (d : Int) (rs : List Rec) (acc : List KV) (i : Nat) : Fr := ((((((bot.set 9 (.int .i64 i)).set 8 (growing (38, 11) (acc.map encK))).set 7 (.bool true)).set 6 (.slice (recsA rs) none)).set 5 (.bool false)).set 4 .nils).set 1 (.int .i64 d)
theorem ar_loop {d : Int} (hd : d ≤ 9223372036854775807) {rs : List Rec} (hn : rs.length ≤ 549755813888)
  (hread : ∀ r ∈ rs, ∀ (q : Id) (h : Heap), callW E q 15 [.str r.s, .int .i64 d] h = some (.tuple [.agg (encK ((refK r.s d).getD kv0)), .bool (refK r.s d).isSome], dropFrom q 0 h)) {p : Id} :
  ∀ (rest : List Rec) (i : Nat) (acc : List KV) (c0 c : Nat) (h : Heap), rs.drop i = rest → i ≤ rs.length → acc.length ≤ i → c0 ≤ c →
  ∃ e fr' c', iterW E 6 p [1, 4, 5, 6, 7, 8, 9] L_6_4 c0 (arFr d rs acc i) c h = some (e, fr', c', dropFrom p c0 h) ∧
   ((∃ l, refUL (fun t => refK t d) rest acc = some l ∧ e = .exit 0 ∧ fr' 8 = growing (38, 11) (l.map encK) ∧ fr' 7 = .bool true) ∨
    (refUL (fun t => refK t d) rest acc = none ∧ e = .ret ∧ fr' 4 = .nils ∧ fr' 5 = .bool false)) := by
 have hrl : (recsA rs).length = rs.length := by simp [recsA]
 intro rest
 induction rest with
 | nil =>
  intro i acc c0 c h hj hi hx hc
  have hlt' : ¬ (i : Int) < rs.length := by have := drop_end hj; omega
  unfold arFr
  rw [rd_6_4]
  generalize hr : execW E 6 p _ _ _ _ = e
  simp -implicitDefEqProofs (maxSteps := 1000000) [Tryz.f6, Code.loopAt, Code.key, hrl, hlt'] at hr
  subst hr
  exact ⟨_, _, _, rfl, .inl ⟨acc, rfl, rfl, by simp, by simp⟩⟩
 | cons r rest ih =>
  intro i acc c0 c h hj hi hx hc
  obtain ⟨hlt, hbb, hbs⟩ := drop_facts hj
  have hlt' : (i : Int) < rs.length := by omega
  have hw : IntKind.i64.wrap ((i : Int) + 1) = ((i + 1 : Nat) : Int) := by rw [wrap_i64 (by omega) (by omega)]; rfl
  have hget? : (recsA rs)[i]? = some (recCells r) := by simp [recsA, hbb]
  have hget : ∀ hl, (recsA rs)[i]'hl = recCells r := fun hl => by rw [List.getElem?_eq_getElem hl] at hget?; exact Option.some.inj hget?
  have hl1 : (acc.map encK).length = acc.length := by simp
  have hmax : acc.length + 1 ≤ maxStr := by unfold maxStr; omega
  have hmax2 : (acc.length + 1) * 160 ≤ 140737488355328 := by omega
  have hc1 : c0 ≤ c + 1 := by omega
  have hc2 : c0 ≤ c + 1 + 1 := by omega
  have hc3 : c0 ≤ c + 1 + 1 + 1 := by omega
  have n1 : ¬ c = c + 1 := by omega
  have n2 : ¬ c + 1 = c + 1 + 1 := by omega
  have n3 : ¬ c + 1 = c + 1 + 1 + 1 := by omega
  have g := hread r (List.mem_of_getElem? hbb)
  have gt := fun q h => takesR_ok (tb := [10]) (by simp) (by simp) r q h
  rw [tabLL] at gt
  simp only [encRec, recCells] at gt
  obtain ⟨cs, hcs, hst⟩ := flatK ((refK r.s d).getD kv0)
  rw [refUL]
  unfold arFr
  rw [rd_6_4]
  cases ht : takesL r.num r.kind with
  | false =>
   rw [ht] at gt
   rw [hcs] at g
   obtain ⟨ky, hs', k0', s0', b0', n0', l0', m0', i0', u0', uu, rfl⟩ := hst
   rw [if_neg (by simp)]
   generalize hr : execW E 6 p _ _ _ _ = ee
   simp -implicitDefEqProofs (maxSteps := 1000000) [-Int.natCast_add, Tryz.f6, Code.loopAt, Code.key, recCells, encRec, hlt, hlt', hrl, hget?, hget, g, gt, rlists_ok, n1, n2, n3, sameAt, beqL_refl] at hr
   subst hr
   exact ⟨_, _, _, some4 (by first | (simp [hc, hc1, hc2, hc3]; done) | (simp -implicitDefEqProofs (disch := omega) only [own_du, drop_drop_cons, drop_upd, drop_drop, drop_drop_self, upd_upd, drop_upd_under, under2, hc, hc1, hc2]; done)), .inr ⟨rfl, rfl, by simp, by simp⟩⟩
  | true =>
   rw [ht] at gt
   cases hk : (refK r.s d).isSome with
   | false =>
    rw [hk] at g
    rw [hcs] at g
    obtain ⟨ky, hs', k0', s0', b0', n0', l0', m0', i0', u0', uu, rfl⟩ := hst
    rw [if_neg (by simp)]
    generalize hr : execW E 6 p _ _ _ _ = ee
    simp -implicitDefEqProofs (maxSteps := 1000000) [-Int.natCast_add, Tryz.f6, Code.loopAt, Code.key, recCells, encRec, hlt, hlt', hrl, hget?, hget, g, gt, rlists_ok, n1, n2, n3, sameAt, beqL_refl] at hr
    subst hr
    exact ⟨_, _, _, some4 (by first | (simp [hc, hc1, hc2, hc3]; done) | (simp -implicitDefEqProofs (disch := omega) only [own_du, drop_drop_cons, drop_upd, drop_drop, drop_drop_self, upd_upd, drop_upd_under, under2, hc, hc1, hc2]; done)), .inr ⟨rfl, rfl, by simp, by simp⟩⟩
   | true =>
    rw [hk] at g
    rw [hcs] at g
    obtain ⟨ky, hs', k0', s0', b0', n0', l0', m0', i0', u0', uu, rfl⟩ := hst
    rw [if_pos (by simp)]
    have hgl := fun (c : Nat) (h : Heap) (hc : c0 ≤ c) => ih (i + 1) (acc ++ [(refK r.s d).getD kv0]) c0 c h hbs (by omega) (by simp; omega) hc
    generalize hr : execW E 6 p _ _ _ _ = ee
    simp -implicitDefEqProofs (maxSteps := 1000000) [-Int.natCast_add, Tryz.f6, Code.loopAt, Code.key, recCells, encRec, hlt, hlt', hrl, hget?, hget, g, gt, rlists_ok, hw, hmax, hmax2, n1, n2, n3, sameAt, beqL_refl] at hr
    subst hr
    rw [← hcs]
    have e6 : A.slice (acc.map encK ++ [encK ((refK r.s d).getD kv0)]) (some (38, 11)) = growing (38, 11) ((acc ++ [(refK r.s d).getD kv0]).map encK) := by
     rw [slice_growing]; simp
    obtain ⟨e, fr', c', q1, q2⟩ := hgl (c + 1 + 1 + 1 + 1) (dropFrom p c0 h) (by omega)
    refine ⟨e, fr', c', ?_, q2⟩
    rw [drop_drop_self] at q1
    simp [-Int.natCast_add, -List.map_append]
    rw [e6]
    rw [← q1]
    exact iterW_congr rfl rfl rfl (by simp -implicitDefEqProofs (disch := omega) only [own_du, drop_drop_cons, drop_upd, drop_drop, drop_drop_self, upd_upd, drop_upd_under, under2, hc, hc1, hc2])
theorem runpack_ok {s : List UInt8} (hb : s.length ≤ 549755813888) {d : Int} (hd : d ≤ 9223372036854775807) (p : Id) (h : Heap) :
  callW E p 6 [.str s, .int .i64 d] h = some (.tuple [.slice (((refU s d).getD []).map encK) none, .bool (refU s d).isSome], dropFrom p 0 h) := by
 have ga := fun q h => rall_ok (s := s) (by omega) hd q h
 unfold refU
 cases hv : allE s d 0 with
 | error x =>
  rw [hv] at ga
  simp only [encRAll] at ga
  rw [eq_6]
  simp -implicitDefEqProofs (maxSteps := 1000000) [Tryz.f6, Code.hide, Code.key, ga, rd_6_4, Code.loopAt]
 | ok rs =>
  rw [hv] at ga
  simp only [encRAll] at ga
  have hlen := allE_lens hv
  obtain ⟨e, fr', c', q1, q2⟩ := ar_loop (p := p) hd (rs := rs) (by omega) (fun r hr q h => readKR_ok (by have := hlen.2.2.1 r hr; omega) hd q h) rs 0 [] 1 1 (dropFrom (0 :: p) 0 h) rfl (Nat.zero_le _) (Nat.le_refl _) (Nat.le_refl _)
  have hrl : (recsA rs).length = rs.length := by simp [recsA]
  simp only [arFr, nat0, List.map_nil, growing_nil] at q1
  dsimp only
  rw [eq_6]
  rcases q2 with ⟨l, q3, rfl, q4, q5⟩ | ⟨q3, rfl, q4, q5⟩
  ·rw [q3]
   simp -implicitDefEqProofs (maxSteps := 1000000) [Tryz.f6, Code.hide, Code.key, ga, hrl, q1, q4, q5]
  ·rw [q3]
   simp -implicitDefEqProofs (maxSteps := 1000000) [Tryz.f6, Code.hide, Code.key, ga, hrl, q1, q4, q5]
end Go.Ai.T

namespace Go.Ai.T
open Go Go.Proofs
set_option maxRecDepth 100000
set_option maxHeartbeats 4000000
theorem pack_nil (p : Id) (h : Heap) : callW E p 9 [.slice [] none] h = some (.str [], dropFrom p 0 h) := by
 have g := fun h hh => sbstring_ok (id := 65 :: 0 :: p) (o := none) (by simp [maxStr]) (p := 1 :: p) (h := h) hh
 have hbn : ∀ id, bld id none = [.nilp, .nils] := fun _ => rfl
 simp only [hbn, Option.getD_none] at g
 rw [eq_9]
 simp -implicitDefEqProofs (maxSteps := 1000000) [Tryz.f9, Code.hide, Code.key, rd_9_3, Code.loopAt, g]
def kvA : KV := .mk [97] false val0 []
theorem kvA_w : writeK kvA = [10, 1, 97] := by
 have h1 : putV 10 = [10] := putV_small (by omega)
 have h2 : putV 1 = [1] := putV_small (by omega)
 simp [writeK, kvA, textB, bytesB, tagB, h1, h2]
theorem kvA_wf : kvA.wf := by simp [kvA, val0, KV.wf, Val.wf, Val.wfs, KV.wfs, maxStr]
theorem kvA_may : mayK kvA 32 = true := by
 have h1 : textOk [97] = true := by decide +kernel
 simp [kvA, mayK, h1, restE_nil, val0, Val.isZero]
theorem pack_a (p : Id) (h : Heap) : callW E p 9 [.slice [kvF [97]] none] h = some (.str [10, 3, 10, 1, 97], dropFrom p 0 h) := by
 have hx : encK kvA = kvF [97] := by simp [kvA, val0, kvF]
 have g1 := fun q h => marK_ok kvA_wf (by simp [kvA, val0, KV.sz, Val.sz, Val.szs, KV.szs]) (d := 32) (by omega) q h
 rw [kvA_may, kvA_w, hx] at g1
 simp only [marE, if_true, encO_none] at g1
 have hb : bytesB 1 [10, 1, 97] = [10, 3, 10, 1, 97] := by
  have h1 : putV 10 = [10] := putV_small (by omega)
  have h2 : putV 3 = [3] := putV_small (by omega)
  simp [bytesB, tagB, h1, h2]
 have g2 := fun q h => wbytes_ok (num := 1) (by omega) (by omega) (s := [10, 1, 97]) (by simp) q h
 rw [hb] at g2
 simp only [nl1] at g2
 have hbn : ∀ id, bld id none = [.nilp, .nils] := fun _ => rfl
 have g3 := fun k h (hne : 0 ≠ k) hh => sbwrite_ok (id := 0 :: p) (T := 65) (.inl rfl) (o := none) (s := [10, 3, 10, 1, 97]) (by simp) (p := k :: p) (Apart.own hne) (h := h) hh
 have g4 := fun k h hh => sbstring_ok (id := 65 :: 0 :: p) (o := some [10, 3, 10, 1, 97]) (by simp [maxStr]) (p := k :: p) (h := h) hh
 simp only [hbn, Option.getD_none, Option.getD_some, List.nil_append] at g3 g4
 have w1 : IntKind.i64.wrap 1 = 1 := by decide
 simp only [kvF] at g1 ⊢
 rw [eq_9]
 simp -implicitDefEqProofs (maxSteps := 1000000) [Tryz.f9, Code.hide, Code.key, rd_9_3, Code.loopAt, g1, g2, g3, g4, w1]
theorem compare_ok (a b : List UInt8) (p : Id) (h : Heap) : callW E p 21 [.agg (kvF a), .agg (kvF b)] h = some (.int .i64 (Lib.compareBytes a b), dropFrom p 0 h) := by
 have g : ∀ q h, callW E q 43 [.str a, .str b] h = some (.int .i64 (Lib.compareBytes a b), h) := fun q h => by
  rw [callW_prim (g := stringsCompare) rfl]; rfl
 unfold kvF
 rw [eq_21]
 simp -implicitDefEqProofs (maxSteps := 1000000) [Tryz.f21, Code.hide, Code.key, g]
theorem ins_same (p : Id) (h : Heap) : callW E p 70 [.slice [kvF [97], kvF [97]] none, .int .i64 0, .int .i64 2, .fn 21 []] h = some (.tuple [], dropFrom p 0 h) := by
 have g := fun a b q h => compare_ok a b q h
 have c1 : Lib.compareBytes [97] [97] = 0 := by decide
 have w0 : IntKind.i64.wrap 0 = 0 := by decide
 have w1 : IntKind.i64.wrap 1 = 1 := by decide
 have w2 : IntKind.i64.wrap 2 = 2 := by decide
 simp only [kvF] at g ⊢
 rw [eq_70]
 simp -implicitDefEqProofs (maxSteps := 1000000) [Tryz.f70, Code.hide, Code.key, rd_70_1, rd_70_4, Code.loopAt, g, c1, w0, w1, w2, sameAt, beqL_refl]
theorem bits64_two (p : Id) (h : Heap) : callW E p 92 [.int .u64 2] h = some (.int .i64 2, dropFrom p 0 h) := by
 have w2 : IntKind.i64.wrap 2 = 2 := by decide
 have w8 : IntKind.u8.wrap 2 = 2 := by decide
 rw [eq_92]
 simp -implicitDefEqProofs (maxSteps := 1000000) [Tryz.f92, Code.key, w2, w8]
theorem bits_two (p : Id) (h : Heap) : callW E p 50 [.int .u64 2] h = some (.int .i64 2, dropFrom p 0 h) := by
 have w2 : IntKind.u64.wrap 2 = 2 := by decide
 have g := fun q h => bits64_two q h
 rw [eq_50]
 simp -implicitDefEqProofs (maxSteps := 1000000) [Tryz.f50, Code.key, w2, g]
end Go.Ai.T

namespace Go.Ai.T
open Go Go.Proofs
set_option maxRecDepth 100000
set_option maxHeartbeats 4000000
theorem pdq_same (p : Id) (h : Heap) : callW E p 49 [.slice [kvF [97], kvF [97]] none, .int .i64 0, .int .i64 2, .int .i64 2, .fn 21 []] h = some (.tuple [], dropFrom p 0 h) := by
 have g := fun q h => ins_same q h
 have w2 : IntKind.i64.wrap 2 = 2 := by decide
 rw [eq_49]
 simp -implicitDefEqProofs (maxSteps := 1000000) [Tryz.f49, Code.hide, Code.key, rd_49_2, Code.loopAt, g, w2]
theorem sortF_same (p : Id) (h : Heap) : callW E p 27 [.slice [kvF [97], kvF [97]] none, .fn 21 []] h = some (.tuple [], dropFrom p 0 h) := by
 have g := fun q h => pdq_same q h
 have g2 := fun q h => bits_two q h
 have w2 : IntKind.u64.wrap 2 = 2 := by decide
 rw [eq_27]
 simp -implicitDefEqProofs (maxSteps := 1000000) [Tryz.f27, Code.hide, Code.key, g, g2, w2, nl2]
theorem twice_same (p : Id) (h : Heap) : callW E p 10 [.slice [kvF [97], kvF [97]] none] h = some (.bool true, dropFrom p 0 h) := by
 have g := fun q h => sortF_same q h
 have g2 : ∀ q h, callW E q 26 [.slice [kvF [97], kvF [97]] none] h = some (.slice [kvF [97], kvF [97]] none, h) := fun q h => by
  rw [callW_prim (g := slicesClone 11 160) rfl]; simp [slicesClone, kvF, maxLen]
 have w0 : IntKind.i64.wrap 0 = 0 := by decide
 simp only [kvF] at g g2 ⊢
 rw [eq_10]
 simp -implicitDefEqProofs (maxSteps := 1000000) [Tryz.f10, Code.hide, Code.key, rd_10_4, Code.loopAt, g, g2, w0, sameAt, beqL_refl]
theorem first9_ok (p : Id) (h : Heap) : callW E p 4 [] h = some (.bool true, dropFrom p 0 h) := by
 have g1 : ∀ q h, callW E q 8 [.slice [kvF [98], kvF [97]] none] h = some (.slice [kvF [97], kvF [98]] none, h) := fun q h => by
  rw [callW_prim (g := attrSort) rfl]; unfold attrSort; rw [if_pos rfl]
 have g2 := fun q h => pack_nil q h
 have g3 := fun q h => pack_a q h
 have g4 := fun q h => twice_same q h
 simp only [kvF] at g1 g3 g4
 rw [eq_4]
 simp -implicitDefEqProofs (maxSteps := 1000000) [Tryz.f4, Code.hide, Code.key, g1, g2, g3, g4]
theorem lawAttrReads {s : List UInt8} (hs : s.length ≤ maxStr) {d : Int} (hd1 : -9223372036854775808 ≤ d) (hd : d ≤ 9223372036854775807) :
  ∃ h', callW E [] 3 [.str s, .int .i64 d] (fun _ => none) = some (.bool true, h') := by
 have f := fun q h => first9_ok q h
 rw [eq_3]
 by_cases hl : (6000 : Int) < s.length
 ·have hl' : 6000 < s.length := by omega
  simp -implicitDefEqProofs (maxSteps := 1000000) [Tryz.f3, Code.key, f, hl, hl']
 have hl' : ¬ 6000 < s.length := by omega
 have u1 := fun q h => aunpack_ok (s := s) (by omega) hd q h
 have u2 := fun q h => runpack_ok (s := s) (by omega) hd q h
 have e := refU_eq s d
 have hb := fun x => unpE_bad (s := s) (d := d) (e := x)
 have hlen : (unpE s d).1.length ≤ maxStr := unpE_len (by omega)
 have hwf : ∀ x ∈ (unpE s d).1, x.wf := unpE_wf (by omega)
 rw [e] at u2
 generalize unpE s d = y at *
 obtain ⟨l, e1⟩ := y
 dsimp only at hb hlen hwf u1 u2
 have gk := fun q h => rKeys_ok (l := l) (m := l) hlen hwf q h
 cases e1 with
 | none =>
  simp only [okO, Option.isNone_none, if_true, Option.getD_some, Option.isSome_some, encO_none] at u1 u2
  simp -implicitDefEqProofs (maxSteps := 1000000) [Tryz.f3, Code.key, f, hl, hl', u1, u2, gk]
 | some x =>
  have hl0 := hb x rfl
  subst hl0
  obtain ⟨t1, a1, hy⟩ := encE_iface x
  simp only [List.map_nil] at gk
  simp only [okO, Option.isNone_some, Bool.false_eq_true, if_false, Option.getD_none, Option.isSome_none, encO_some, hy, List.map_nil] at u1 u2
  simp -implicitDefEqProofs (maxSteps := 1000000) [Tryz.f3, Code.key, f, hl, hl', u1, u2, gk]
end Go.Ai.T

namespace Go.Proofs.YtfajnnnldhfhiaaGreatDoor
open Go.ChangeShapes Go.WideShapes Go.RowKit
set_option maxRecDepth 100000
theorem law3 (xs : List Go.Ai.A) (h : Go.Ai.ArgsT Go.Ai.T.E.P Tryz.f3.params.toList xs) : ∃ h', Go.Ai.callW Go.Ai.T.E [] 3 xs (fun _ => none) = some (.bool true, h') := by
 have hp : Tryz.f3.params.toList = [9, 3] := by kernel_rfl
 rw [hp] at h
 cases h with
 | cons h0 h =>
  cases h with
  | cons h1 h =>
   cases h
   obtain ⟨x0, rfl, hx0⟩ := argS h0
   obtain ⟨x1, rfl, hx1, hy1⟩ := argI h1
   exact Go.Ai.T.lawAttrReads hx0 hx1 hy1
theorem lifted3 (os : Os) (started : os.Started) (H : Type) (enc : TypeId × Value → H) :
  ReturnsInHanded {} Tryz.checked os 3 .any (fun w args => (Rows.attrReadsSpec.pre enc Tryz.prog Tryz.f3 [] false w args ∧ laidMetH Tryz.prog laidList w) ∧ sizedMet enc Tryz.prog Tryz.f3 (OpenSpec.ofChange Rows.attrReadsSpec) false w args)
   (Rows.attrReadsSpec.post enc Tryz.prog Tryz.f3 false true false false) := by
 refine returnsInHanded_of_change_and (C := Tryz.checked) (X := fun w _ => laidMetH Tryz.prog laidList w) (fun _ _ _ hh h => h.of_heap hh) Tryz.own started (by kernel_rfl) Tryz.func3
  (ChangeSpec.witness_at (enc := enc) (C := Tryz.checked) (os := os) (X := fun w _ => laidMetH Tryz.prog laidList w) false (laidWorld os)
   #[.string ⟨#[]⟩, .int .i64 0] 8 rfl (by kernel_rfl) (by kernel_rfl) (by kernel_rfl) (by kernel_rfl) (by kernel_rfl) (laidWorld_met os _)) ?_
 intro W base args ds gs before hval hW _ _ hL _
 exact Go.Ai.law_contract (E := Go.Ai.T.E) (ts := [3, 4, 9, 23, 33, 34, 36, 38, 154]) (tb := 4) (fn := Tryz.f3) plain_ok laidOut (by kernel_rfl) (by kernel_rfl) Tryz.underlying4 rfl
  (by
   intro ds hds
   have hp : Tryz.f3.params.size = 2 := by kernel_rfl
   rw [hp] at hds
   match ds, hds with
   | [d0, d1], _ => rfl) law3 (Go.Ai.T.envS_ok (handle_of_laid hL)) hval hW
theorem holds3 : Rows.AttrReadsSaid :=
 OpenClaim.holds_of_wide 3 Tryz.f3 rfl rfl rfl rfl rfl rfl rfl ⟨rfl, rfl, rfl, rfl, rfl⟩ rfl rfl rfl rfl rfl (by kernel_rfl) Tryz.func3 (by kernel_rfl)
  (of_decide_eq_true (by kernel_rfl)) (by unfold Func.isWrapper; rw [if_neg (of_decide_eq_false (by kernel_rfl))]; exact ⟨rfl, rfl⟩)
  (fun os started H enc _ => lifted3 os started H enc)
theorem attrReads_holds : Rows.AttrReadsCardSaid :=
 Claim7.holds_tied_plain_at .later [] [.handle] true (true, "08637694d6e6310511df44909fa1cbd37a4e60b999f78694a8e4d2d31976346c") true
  holds3 (fun _ h => by cases h) (by kernel_rfl) (fun _ h => by cases h) attrReads_row_tie rfl ⟨rfl, rfl⟩ (by kernel_rfl) rfl
  (fun f fn hf hfn => by
   obtain rfl : f = 3 := Option.some.inj ((show Tryz.prog.funcNamed "hygrometer/hyglaw9.AttrReads" = some 3 by kernel_rfl).symm.trans hf) |>.symm
   obtain rfl : fn = Tryz.f3 := (Option.some.inj (Tryz.func3.symm.trans hfn)).symm
   have hall : (Tryz.f3.params.toList.all fun t => !(Tryz.prog.wantsStandIn t)) = true := by kernel_rfl
   exact ⟨by kernel_rfl, fun j t ht => by
    have hm : t ∈ Tryz.f3.params.toList := by
     rw [← Array.getElem?_toList] at ht
     exact List.mem_of_getElem? ht
    have := List.all_eq_true.1 hall t hm
    simp only [Bool.not_eq_true'] at this
    exact this⟩)
  (by kernel_rfl)
end Go.Proofs.YtfajnnnldhfhiaaGreatDoor

