/- Part KJ of the proof that a law of this program answers yes at every input: no conditions beyond the given statement. -/
import Derived.Test.YtfajnnnldhfhiaaGreatDoorKE
import Derived.Test.YtfajnnnldhfhiaaGreatDoorKG
import Derived.Test.YtfajnnnldhfhiaaGreatDoorKM
set_option linter.unusedSimpArgs false
set_option linter.unusedVariables false
set_option linter.all false
namespace Go.Ai.T
open Go Go.Proofs
set_option maxRecDepth 100000
set_option maxHeartbeats 4000000
def rvCells (st : RV) : List A := [.int .i64 st.kind, .str st.s, .bool st.b, .int .u64 st.n, .nils, .nils, .str [], .str st.unk]
def rvFr (p : Id) (d : Int) (kr kx : Nat) (rs : List Rec) (part : List UInt8) (i : Nat) : Fr := (((((((bot.set 10 (.int .i64 i)).set 9 (.str part)).set 8 (.ptr (36 :: kx :: p) 0)).set 6 (.slice (recsA rs) none)).set 5 (.bool false)).set 4 (.ptr (36 :: kr :: p) 0)).set 1 (.int .i64 d))
theorem rv_round {st st' : RV} {r : Rec} (hs : rvStep st r = some st') (hk : r.kind < 8) (hrl8 : r.s.length ≤ 1099511627776) {d : Int} {rs : List Rec} {i : Nat} (hlt : i < rs.length) (hbb : rs[i]? = some r) (hn : rs.length ≤ 1099511627776) (hu : st.unk.length + r.raw.length ≤ 1099511627776) (hp : st.part.length + r.s.length ≤ 1099511627776) :
  ∃ K, ∀ (p : Id) (kr kx c0 c : Nat) (h : Heap), kr < kx → kx < c0 → c0 ≤ c → h (36 :: kx :: p) = some (rvCells st) →
   iterW E 38 p [1, 4, 5, 6, 8, 9, 10] L_38_7 c0 (rvFr p d kr kx rs st.part i) c h =
   iterW E 38 p [1, 4, 5, 6, 8, 9, 10] L_38_7 c0 (rvFr p d kr kx rs st'.part (i + 1)) (c + K) (upd (dropFrom p c0 h) (36 :: kx :: p) (rvCells st')) := by
 have hlt' : (i : Int) < rs.length := by omega
 have hw : IntKind.i64.wrap ((i : Int) + 1) = ((i + 1 : Nat) : Int) := by rw [wrap_i64 (by omega) (by omega)]; rfl
 have hrl : (recsA rs).length = rs.length := by simp [recsA]
 have hget? : (recsA rs)[i]? = some (recCells r) := by simp [recsA, hbb]
 have hget : ∀ hl, (recsA rs)[i]'hl = recCells r := fun hl => by rw [List.getElem?_eq_getElem hl] at hget?; exact Option.some.inj hget?
 have gt := fun q h => takesR_ok (tb := [10, 16, 24, 33, 42, 50, 58]) (by simp) (by simp) r q h
 rw [tabV _ _ hk] at gt
 simp only [encRec, recCells] at gt
 have gx := fun q h => rtext_ok hrl8 q h
 have hm1 : st.unk.length + r.raw.length ≤ maxStr := by unfold maxStr; omega
 have hm2 : st.part.length + r.s.length ≤ maxStr := by unfold maxStr; omega
 have hm3 : r.s.length ≤ maxStr := by unfold maxStr; omega
 cases ht : takesV r.num r.kind with
 | false =>
  rw [ht] at gt
  simp only [rvStep, ht, if_true, Option.some.injEq] at hs
  subst hs
  refine ⟨3, fun p kr kx c0 c h h1 h2 h3 hx => ?_⟩
  obtain ⟨o1, o2, o3, o4, o5, o6⟩ := own_facts (p := p) 36 kx
  have n0 : kx ≠ c := by omega
  have n1 : kx ≠ c + 1 := by omega
  have n2 : kx ≠ c + 2 := by omega
  have n3 : c ≠ c + 1 := by omega
  have n4 : c ≠ c + 2 := by omega
  have n5 : kx ≠ c + 1 + 1 := by omega
  have n6 : c ≠ c + 1 + 1 := by omega
  simp only [rvCells] at hx
  unfold rvFr
  rw [rd_38_7]
  generalize hr : execW E 38 p _ _ _ _ = ee
  simp -implicitDefEqProofs (maxSteps := 1000000) [-Int.natCast_add, Tryz.f38, Code.loopAt, Code.key, recCells, encRec, hx, o1, o2, o3, o4, o5, o6, n0, n1, n2, n3, n4, n5, n6, values_ok, gt, hlt, hlt', hrl, hget?, hget, hw, hm1] at hr
  subst hr
  simp [-Int.natCast_add]
  exact iterW_congr rfl rfl (by omega) (by simp -implicitDefEqProofs (disch := omega) only [own_du, drop_drop_cons, drop_upd, drop_drop, drop_drop_self, upd_upd]; rfl)
 | true =>
  rw [ht] at gt
  have hnum := takesV_num ht
  have ht' : ¬ takesV r.num r.kind = false := by simp [ht]
  have nl6 : ((6 : Nat) : Int) = 6 := rfl
  have nl7 : ((7 : Nat) : Int) = 7 := rfl
  by_cases e1 : r.num = 1
  ·have hx1 : textOk r.s = true := by
    cases hx : textOk r.s with
    | true => rfl
    | false => rw [rvStep, if_neg ht', if_pos e1, if_neg (by simp [hx])] at hs; cases hs
   rw [show (uBad r.s).isNone = true from hx1] at gx
   by_cases ek : r.num = st.kind
   ·have hst : st' = ⟨1, r.s, false, 0, st.unk, []⟩ := by
     have hp0 : rvPart st r = [] := by simp [rvPart, e1, ← ek, e1]
     rw [rvStep, if_neg ht'] at hs
     rw [if_pos e1, if_pos hx1, hp0] at hs
     exact (Option.some.inj hs).symm
    subst hst
    refine ⟨4, fun p kr kx c0 c h h1 h2 h3 hx => ?_⟩
    obtain ⟨o1, o2, o3, o4, o5, o6⟩ := own_facts (p := p) 36 kx
    have n0 : kx ≠ c := by omega
    have n1 : kx ≠ c + 1 := by omega
    have n2 : kx ≠ c + 1 + 1 := by omega
    have n3 : kx ≠ c + 1 + 1 + 1 := by omega
    have n4 : c ≠ c + 1 := by omega
    have n5 : c ≠ c + 1 + 1 := by omega
    have n6 : c ≠ c + 1 + 1 + 1 := by omega
    have ek2 : st.kind = 1 := by omega
    have ek3 : (1 : Int) = st.kind := by omega
    simp only [rvCells, ek2] at hx
    simp only [e1, nl1] at gt
    unfold rvFr
    rw [rd_38_7]
    generalize hr : execW E 38 p _ _ _ _ = ee
    simp -implicitDefEqProofs (maxSteps := 1000000) [-Int.natCast_add, Tryz.f38, Code.loopAt, Code.key, recCells, encRec, hx, o1, o2, o3, o4, o5, o6, n0, n1, n2, n3, n4, n5, n6, values_ok, gt, gx, hlt, hlt', hrl, hget?, hget, hw, hm1, hm2, hm3, e1, ek2, nat0, nl1, nl2, nl3, nl4, nl5, nl6, nl7] at hr
    subst hr
    simp [-Int.natCast_add]
    exact iterW_congr rfl rfl (by omega) (by simp -implicitDefEqProofs (disch := omega) only [own_du, drop_drop_cons, drop_upd, drop_drop, drop_drop_self, upd_upd]; rfl)
   ·have hst : st' = ⟨1, r.s, false, 0, st.unk, []⟩ := by
     have hp0 : rvPart st r = [] := by simp [rvPart, e1]
     rw [rvStep, if_neg ht'] at hs
     rw [if_pos e1, if_pos hx1, hp0] at hs
     exact (Option.some.inj hs).symm
    subst hst
    refine ⟨4, fun p kr kx c0 c h h1 h2 h3 hx => ?_⟩
    obtain ⟨o1, o2, o3, o4, o5, o6⟩ := own_facts (p := p) 36 kx
    have n0 : kx ≠ c := by omega
    have n1 : kx ≠ c + 1 := by omega
    have n2 : kx ≠ c + 1 + 1 := by omega
    have n3 : kx ≠ c + 1 + 1 + 1 := by omega
    have n4 : c ≠ c + 1 := by omega
    have n5 : c ≠ c + 1 + 1 := by omega
    have n6 : c ≠ c + 1 + 1 + 1 := by omega
    have ek2 : ¬ 1 = st.kind := by omega
    have ek3 : ¬ (1 : Int) = st.kind := by omega
    simp only [rvCells] at hx
    simp only [e1, nl1] at gt
    unfold rvFr
    rw [rd_38_7]
    generalize hr : execW E 38 p _ _ _ _ = ee
    simp -implicitDefEqProofs (maxSteps := 1000000) [-Int.natCast_add, Tryz.f38, Code.loopAt, Code.key, recCells, encRec, hx, o1, o2, o3, o4, o5, o6, n0, n1, n2, n3, n4, n5, n6, values_ok, gt, gx, hlt, hlt', hrl, hget?, hget, hw, hm1, hm2, hm3, e1, ek2, ek3, nat0, nl1, nl2, nl3, nl4, nl5, nl6, nl7] at hr
    subst hr
    simp [-Int.natCast_add]
    exact iterW_congr rfl rfl (by omega) (by simp -implicitDefEqProofs (disch := omega) only [own_du, drop_drop_cons, drop_upd, drop_drop, drop_drop_self, upd_upd]; rfl)
  by_cases e2 : r.num = 2
  ·by_cases ek : r.num = st.kind
   ·have hst : st' = ⟨2, [], decide (r.n ≠ 0), 0, st.unk, []⟩ := by
     have hp0 : rvPart st r = [] := by simp [rvPart, e2, ← ek, e2]
     rw [rvStep, if_neg ht'] at hs
     rw [if_neg e1, if_pos e2, hp0] at hs
     exact (Option.some.inj hs).symm
    subst hst
    refine ⟨3, fun p kr kx c0 c h h1 h2 h3 hx => ?_⟩
    obtain ⟨o1, o2, o3, o4, o5, o6⟩ := own_facts (p := p) 36 kx
    have n0 : kx ≠ c := by omega
    have n1 : kx ≠ c + 1 := by omega
    have n2 : kx ≠ c + 1 + 1 := by omega
    have n3 : kx ≠ c + 1 + 1 + 1 := by omega
    have n4 : c ≠ c + 1 := by omega
    have n5 : c ≠ c + 1 + 1 := by omega
    have n6 : c ≠ c + 1 + 1 + 1 := by omega
    have ek2 : st.kind = 2 := by omega
    have ek3 : (2 : Int) = st.kind := by omega
    simp only [rvCells, ek2] at hx
    simp only [e2, nl2] at gt
    unfold rvFr
    rw [rd_38_7]
    generalize hr : execW E 38 p _ _ _ _ = ee
    simp -implicitDefEqProofs (maxSteps := 1000000) [-Int.natCast_add, Tryz.f38, Code.loopAt, Code.key, recCells, encRec, hx, o1, o2, o3, o4, o5, o6, n0, n1, n2, n3, n4, n5, n6, values_ok, gt, gx, hlt, hlt', hrl, hget?, hget, hw, hm1, hm2, hm3, e2, ek2, nat0, nl1, nl2, nl3, nl4, nl5, nl6, nl7] at hr
    subst hr
    simp [-Int.natCast_add]
    exact iterW_congr rfl rfl (by omega) (by simp -implicitDefEqProofs (disch := omega) only [own_du, drop_drop_cons, drop_upd, drop_drop, drop_drop_self, upd_upd]; simp [rvCells])
   ·have hst : st' = ⟨2, [], decide (r.n ≠ 0), 0, st.unk, []⟩ := by
     have hp0 : rvPart st r = [] := by simp [rvPart, e2]
     rw [rvStep, if_neg ht'] at hs
     rw [if_neg e1, if_pos e2, hp0] at hs
     exact (Option.some.inj hs).symm
    subst hst
    refine ⟨3, fun p kr kx c0 c h h1 h2 h3 hx => ?_⟩
    obtain ⟨o1, o2, o3, o4, o5, o6⟩ := own_facts (p := p) 36 kx
    have n0 : kx ≠ c := by omega
    have n1 : kx ≠ c + 1 := by omega
    have n2 : kx ≠ c + 1 + 1 := by omega
    have n3 : kx ≠ c + 1 + 1 + 1 := by omega
    have n4 : c ≠ c + 1 := by omega
    have n5 : c ≠ c + 1 + 1 := by omega
    have n6 : c ≠ c + 1 + 1 + 1 := by omega
    have ek2 : ¬ 2 = st.kind := by omega
    have ek3 : ¬ (2 : Int) = st.kind := by omega
    simp only [rvCells] at hx
    simp only [e2, nl2] at gt
    unfold rvFr
    rw [rd_38_7]
    generalize hr : execW E 38 p _ _ _ _ = ee
    simp -implicitDefEqProofs (maxSteps := 1000000) [-Int.natCast_add, Tryz.f38, Code.loopAt, Code.key, recCells, encRec, hx, o1, o2, o3, o4, o5, o6, n0, n1, n2, n3, n4, n5, n6, values_ok, gt, gx, hlt, hlt', hrl, hget?, hget, hw, hm1, hm2, hm3, e2, ek2, ek3, nat0, nl1, nl2, nl3, nl4, nl5, nl6, nl7] at hr
    subst hr
    simp [-Int.natCast_add]
    exact iterW_congr rfl rfl (by omega) (by simp -implicitDefEqProofs (disch := omega) only [own_du, drop_drop_cons, drop_upd, drop_drop, drop_drop_self, upd_upd]; simp [rvCells])
  by_cases e3 : r.num = 3
  ·by_cases ek : r.num = st.kind
   ·have hst : st' = ⟨3, [], false, r.n, st.unk, []⟩ := by
     have hp0 : rvPart st r = [] := by simp [rvPart, e3, ← ek, e3]
     rw [rvStep, if_neg ht'] at hs
     rw [if_neg e1, if_neg e2, if_pos (by omega), hp0, e3] at hs
     exact (Option.some.inj hs).symm
    subst hst
    refine ⟨3, fun p kr kx c0 c h h1 h2 h3 hx => ?_⟩
    obtain ⟨o1, o2, o3, o4, o5, o6⟩ := own_facts (p := p) 36 kx
    have n0 : kx ≠ c := by omega
    have n1 : kx ≠ c + 1 := by omega
    have n2 : kx ≠ c + 1 + 1 := by omega
    have n3 : kx ≠ c + 1 + 1 + 1 := by omega
    have n4 : c ≠ c + 1 := by omega
    have n5 : c ≠ c + 1 + 1 := by omega
    have n6 : c ≠ c + 1 + 1 + 1 := by omega
    have ek2 : st.kind = 3 := by omega
    have ek3 : (3 : Int) = st.kind := by omega
    simp only [rvCells, ek2] at hx
    simp only [e3, nl3] at gt
    unfold rvFr
    rw [rd_38_7]
    generalize hr : execW E 38 p _ _ _ _ = ee
    simp -implicitDefEqProofs (maxSteps := 1000000) [-Int.natCast_add, Tryz.f38, Code.loopAt, Code.key, recCells, encRec, hx, o1, o2, o3, o4, o5, o6, n0, n1, n2, n3, n4, n5, n6, values_ok, gt, gx, hlt, hlt', hrl, hget?, hget, hw, hm1, hm2, hm3, e3, ek2, nat0, nl1, nl2, nl3, nl4, nl5, nl6, nl7] at hr
    subst hr
    simp [-Int.natCast_add]
    exact iterW_congr rfl rfl (by omega) (by simp -implicitDefEqProofs (disch := omega) only [own_du, drop_drop_cons, drop_upd, drop_drop, drop_drop_self, upd_upd]; rfl)
   ·have hst : st' = ⟨3, [], false, r.n, st.unk, []⟩ := by
     have hp0 : rvPart st r = [] := by simp [rvPart, e3]
     rw [rvStep, if_neg ht'] at hs
     rw [if_neg e1, if_neg e2, if_pos (by omega), hp0, e3] at hs
     exact (Option.some.inj hs).symm
    subst hst
    refine ⟨3, fun p kr kx c0 c h h1 h2 h3 hx => ?_⟩
    obtain ⟨o1, o2, o3, o4, o5, o6⟩ := own_facts (p := p) 36 kx
    have n0 : kx ≠ c := by omega
    have n1 : kx ≠ c + 1 := by omega
    have n2 : kx ≠ c + 1 + 1 := by omega
    have n3 : kx ≠ c + 1 + 1 + 1 := by omega
    have n4 : c ≠ c + 1 := by omega
    have n5 : c ≠ c + 1 + 1 := by omega
    have n6 : c ≠ c + 1 + 1 + 1 := by omega
    have ek2 : ¬ 3 = st.kind := by omega
    have ek3 : ¬ (3 : Int) = st.kind := by omega
    simp only [rvCells] at hx
    simp only [e3, nl3] at gt
    unfold rvFr
    rw [rd_38_7]
    generalize hr : execW E 38 p _ _ _ _ = ee
    simp -implicitDefEqProofs (maxSteps := 1000000) [-Int.natCast_add, Tryz.f38, Code.loopAt, Code.key, recCells, encRec, hx, o1, o2, o3, o4, o5, o6, n0, n1, n2, n3, n4, n5, n6, values_ok, gt, gx, hlt, hlt', hrl, hget?, hget, hw, hm1, hm2, hm3, e3, ek2, ek3, nat0, nl1, nl2, nl3, nl4, nl5, nl6, nl7] at hr
    subst hr
    simp [-Int.natCast_add]
    exact iterW_congr rfl rfl (by omega) (by simp -implicitDefEqProofs (disch := omega) only [own_du, drop_drop_cons, drop_upd, drop_drop, drop_drop_self, upd_upd]; rfl)
  by_cases e4 : r.num = 4
  ·by_cases ek : r.num = st.kind
   ·have hst : st' = ⟨4, [], false, r.n, st.unk, []⟩ := by
     have hp0 : rvPart st r = [] := by simp [rvPart, e4, ← ek, e4]
     rw [rvStep, if_neg ht'] at hs
     rw [if_neg e1, if_neg e2, if_pos (by omega), hp0, e4] at hs
     exact (Option.some.inj hs).symm
    subst hst
    refine ⟨3, fun p kr kx c0 c h h1 h2 h3 hx => ?_⟩
    obtain ⟨o1, o2, o3, o4, o5, o6⟩ := own_facts (p := p) 36 kx
    have n0 : kx ≠ c := by omega
    have n1 : kx ≠ c + 1 := by omega
    have n2 : kx ≠ c + 1 + 1 := by omega
    have n3 : kx ≠ c + 1 + 1 + 1 := by omega
    have n4 : c ≠ c + 1 := by omega
    have n5 : c ≠ c + 1 + 1 := by omega
    have n6 : c ≠ c + 1 + 1 + 1 := by omega
    have ek2 : st.kind = 4 := by omega
    have ek3 : (4 : Int) = st.kind := by omega
    simp only [rvCells, ek2] at hx
    simp only [e4, nl4] at gt
    unfold rvFr
    rw [rd_38_7]
    generalize hr : execW E 38 p _ _ _ _ = ee
    simp -implicitDefEqProofs (maxSteps := 1000000) [-Int.natCast_add, Tryz.f38, Code.loopAt, Code.key, recCells, encRec, hx, o1, o2, o3, o4, o5, o6, n0, n1, n2, n3, n4, n5, n6, values_ok, gt, gx, hlt, hlt', hrl, hget?, hget, hw, hm1, hm2, hm3, e4, ek2, nat0, nl1, nl2, nl3, nl4, nl5, nl6, nl7] at hr
    subst hr
    simp [-Int.natCast_add]
    exact iterW_congr rfl rfl (by omega) (by simp -implicitDefEqProofs (disch := omega) only [own_du, drop_drop_cons, drop_upd, drop_drop, drop_drop_self, upd_upd]; rfl)
   ·have hst : st' = ⟨4, [], false, r.n, st.unk, []⟩ := by
     have hp0 : rvPart st r = [] := by simp [rvPart, e4]
     rw [rvStep, if_neg ht'] at hs
     rw [if_neg e1, if_neg e2, if_pos (by omega), hp0, e4] at hs
     exact (Option.some.inj hs).symm
    subst hst
    refine ⟨3, fun p kr kx c0 c h h1 h2 h3 hx => ?_⟩
    obtain ⟨o1, o2, o3, o4, o5, o6⟩ := own_facts (p := p) 36 kx
    have n0 : kx ≠ c := by omega
    have n1 : kx ≠ c + 1 := by omega
    have n2 : kx ≠ c + 1 + 1 := by omega
    have n3 : kx ≠ c + 1 + 1 + 1 := by omega
    have n4 : c ≠ c + 1 := by omega
    have n5 : c ≠ c + 1 + 1 := by omega
    have n6 : c ≠ c + 1 + 1 + 1 := by omega
    have ek2 : ¬ 4 = st.kind := by omega
    have ek3 : ¬ (4 : Int) = st.kind := by omega
    simp only [rvCells] at hx
    simp only [e4, nl4] at gt
    unfold rvFr
    rw [rd_38_7]
    generalize hr : execW E 38 p _ _ _ _ = ee
    simp -implicitDefEqProofs (maxSteps := 1000000) [-Int.natCast_add, Tryz.f38, Code.loopAt, Code.key, recCells, encRec, hx, o1, o2, o3, o4, o5, o6, n0, n1, n2, n3, n4, n5, n6, values_ok, gt, gx, hlt, hlt', hrl, hget?, hget, hw, hm1, hm2, hm3, e4, ek2, ek3, nat0, nl1, nl2, nl3, nl4, nl5, nl6, nl7] at hr
    subst hr
    simp [-Int.natCast_add]
    exact iterW_congr rfl rfl (by omega) (by simp -implicitDefEqProofs (disch := omega) only [own_du, drop_drop_cons, drop_upd, drop_drop, drop_drop_self, upd_upd]; rfl)
  by_cases e5 : r.num = 5
  ·by_cases ek : r.num = st.kind
   ·have hst : st' = ⟨5, [], false, 0, st.unk, st.part ++ r.s⟩ := by
     have hp0 : rvPart st r = st.part := by simp [rvPart, e5, ← ek, e5]
     rw [rvStep, if_neg ht'] at hs
     rw [if_neg e1, if_neg e2, if_neg (by omega), if_pos (by omega), hp0, e5] at hs
     exact (Option.some.inj hs).symm
    subst hst
    refine ⟨3, fun p kr kx c0 c h h1 h2 h3 hx => ?_⟩
    obtain ⟨o1, o2, o3, o4, o5, o6⟩ := own_facts (p := p) 36 kx
    have n0 : kx ≠ c := by omega
    have n1 : kx ≠ c + 1 := by omega
    have n2 : kx ≠ c + 1 + 1 := by omega
    have n3 : kx ≠ c + 1 + 1 + 1 := by omega
    have n4 : c ≠ c + 1 := by omega
    have n5 : c ≠ c + 1 + 1 := by omega
    have n6 : c ≠ c + 1 + 1 + 1 := by omega
    have ek2 : st.kind = 5 := by omega
    have ek3 : (5 : Int) = st.kind := by omega
    simp only [rvCells, ek2] at hx
    simp only [e5, nl5] at gt
    unfold rvFr
    rw [rd_38_7]
    generalize hr : execW E 38 p _ _ _ _ = ee
    simp -implicitDefEqProofs (maxSteps := 1000000) [-Int.natCast_add, Tryz.f38, Code.loopAt, Code.key, recCells, encRec, hx, o1, o2, o3, o4, o5, o6, n0, n1, n2, n3, n4, n5, n6, values_ok, gt, gx, hlt, hlt', hrl, hget?, hget, hw, hm1, hm2, hm3, e5, ek2, nat0, nl1, nl2, nl3, nl4, nl5, nl6, nl7] at hr
    subst hr
    simp [-Int.natCast_add]
    exact iterW_congr rfl rfl (by omega) (by simp -implicitDefEqProofs (disch := omega) only [own_du, drop_drop_cons, drop_upd, drop_drop, drop_drop_self, upd_upd]; rfl)
   ·have hst : st' = ⟨5, [], false, 0, st.unk, [] ++ r.s⟩ := by
     have hp0 : rvPart st r = [] := by rw [rvPart, if_pos (Or.inl ek)]
     rw [rvStep, if_neg ht'] at hs
     rw [if_neg e1, if_neg e2, if_neg (by omega), if_pos (by omega), hp0, e5] at hs
     exact (Option.some.inj hs).symm
    subst hst
    refine ⟨3, fun p kr kx c0 c h h1 h2 h3 hx => ?_⟩
    obtain ⟨o1, o2, o3, o4, o5, o6⟩ := own_facts (p := p) 36 kx
    have n0 : kx ≠ c := by omega
    have n1 : kx ≠ c + 1 := by omega
    have n2 : kx ≠ c + 1 + 1 := by omega
    have n3 : kx ≠ c + 1 + 1 + 1 := by omega
    have n4 : c ≠ c + 1 := by omega
    have n5 : c ≠ c + 1 + 1 := by omega
    have n6 : c ≠ c + 1 + 1 + 1 := by omega
    have ek2 : ¬ 5 = st.kind := by omega
    have ek3 : ¬ (5 : Int) = st.kind := by omega
    simp only [rvCells] at hx
    simp only [e5, nl5] at gt
    unfold rvFr
    rw [rd_38_7]
    generalize hr : execW E 38 p _ _ _ _ = ee
    simp -implicitDefEqProofs (maxSteps := 1000000) [-Int.natCast_add, Tryz.f38, Code.loopAt, Code.key, recCells, encRec, hx, o1, o2, o3, o4, o5, o6, n0, n1, n2, n3, n4, n5, n6, values_ok, gt, gx, hlt, hlt', hrl, hget?, hget, hw, hm1, hm2, hm3, e5, ek2, ek3, nat0, nl1, nl2, nl3, nl4, nl5, nl6, nl7] at hr
    subst hr
    simp [-Int.natCast_add]
    exact iterW_congr rfl rfl (by omega) (by simp -implicitDefEqProofs (disch := omega) only [own_du, drop_drop_cons, drop_upd, drop_drop, drop_drop_self, upd_upd]; rfl)
  by_cases e6 : r.num = 6
  ·by_cases ek : r.num = st.kind
   ·have hst : st' = ⟨6, [], false, 0, st.unk, st.part ++ r.s⟩ := by
     have hp0 : rvPart st r = st.part := by simp [rvPart, e6, ← ek, e6]
     rw [rvStep, if_neg ht'] at hs
     rw [if_neg e1, if_neg e2, if_neg (by omega), if_pos (by omega), hp0, e6] at hs
     exact (Option.some.inj hs).symm
    subst hst
    refine ⟨3, fun p kr kx c0 c h h1 h2 h3 hx => ?_⟩
    obtain ⟨o1, o2, o3, o4, o5, o6⟩ := own_facts (p := p) 36 kx
    have n0 : kx ≠ c := by omega
    have n1 : kx ≠ c + 1 := by omega
    have n2 : kx ≠ c + 1 + 1 := by omega
    have n3 : kx ≠ c + 1 + 1 + 1 := by omega
    have n4 : c ≠ c + 1 := by omega
    have n5 : c ≠ c + 1 + 1 := by omega
    have n6 : c ≠ c + 1 + 1 + 1 := by omega
    have ek2 : st.kind = 6 := by omega
    have ek3 : (6 : Int) = st.kind := by omega
    simp only [rvCells, ek2] at hx
    simp only [e6, nl6] at gt
    unfold rvFr
    rw [rd_38_7]
    generalize hr : execW E 38 p _ _ _ _ = ee
    simp -implicitDefEqProofs (maxSteps := 1000000) [-Int.natCast_add, Tryz.f38, Code.loopAt, Code.key, recCells, encRec, hx, o1, o2, o3, o4, o5, o6, n0, n1, n2, n3, n4, n5, n6, values_ok, gt, gx, hlt, hlt', hrl, hget?, hget, hw, hm1, hm2, hm3, e6, ek2, nat0, nl1, nl2, nl3, nl4, nl5, nl6, nl7] at hr
    subst hr
    simp [-Int.natCast_add]
    exact iterW_congr rfl rfl (by omega) (by simp -implicitDefEqProofs (disch := omega) only [own_du, drop_drop_cons, drop_upd, drop_drop, drop_drop_self, upd_upd]; rfl)
   ·have hst : st' = ⟨6, [], false, 0, st.unk, [] ++ r.s⟩ := by
     have hp0 : rvPart st r = [] := by rw [rvPart, if_pos (Or.inl ek)]
     rw [rvStep, if_neg ht'] at hs
     rw [if_neg e1, if_neg e2, if_neg (by omega), if_pos (by omega), hp0, e6] at hs
     exact (Option.some.inj hs).symm
    subst hst
    refine ⟨3, fun p kr kx c0 c h h1 h2 h3 hx => ?_⟩
    obtain ⟨o1, o2, o3, o4, o5, o6⟩ := own_facts (p := p) 36 kx
    have n0 : kx ≠ c := by omega
    have n1 : kx ≠ c + 1 := by omega
    have n2 : kx ≠ c + 1 + 1 := by omega
    have n3 : kx ≠ c + 1 + 1 + 1 := by omega
    have n4 : c ≠ c + 1 := by omega
    have n5 : c ≠ c + 1 + 1 := by omega
    have n6 : c ≠ c + 1 + 1 + 1 := by omega
    have ek2 : ¬ 6 = st.kind := by omega
    have ek3 : ¬ (6 : Int) = st.kind := by omega
    simp only [rvCells] at hx
    simp only [e6, nl6] at gt
    unfold rvFr
    rw [rd_38_7]
    generalize hr : execW E 38 p _ _ _ _ = ee
    simp -implicitDefEqProofs (maxSteps := 1000000) [-Int.natCast_add, Tryz.f38, Code.loopAt, Code.key, recCells, encRec, hx, o1, o2, o3, o4, o5, o6, n0, n1, n2, n3, n4, n5, n6, values_ok, gt, gx, hlt, hlt', hrl, hget?, hget, hw, hm1, hm2, hm3, e6, ek2, ek3, nat0, nl1, nl2, nl3, nl4, nl5, nl6, nl7] at hr
    subst hr
    simp [-Int.natCast_add]
    exact iterW_congr rfl rfl (by omega) (by simp -implicitDefEqProofs (disch := omega) only [own_du, drop_drop_cons, drop_upd, drop_drop, drop_drop_self, upd_upd]; rfl)
  have e7 : r.num = 7 := by omega
  by_cases ek : r.num = st.kind
  ·have hst : st' = ⟨7, r.s, false, 0, st.unk, []⟩ := by
    have hp0 : rvPart st r = [] := by simp [rvPart, e7, ← ek, e7]
    rw [rvStep, if_neg ht'] at hs
    rw [if_neg e1, if_neg e2, if_neg (by omega), if_neg (by omega), hp0, e7] at hs
    exact (Option.some.inj hs).symm
   subst hst
   refine ⟨3, fun p kr kx c0 c h h1 h2 h3 hx => ?_⟩
   obtain ⟨o1, o2, o3, o4, o5, o6⟩ := own_facts (p := p) 36 kx
   have n0 : kx ≠ c := by omega
   have n1 : kx ≠ c + 1 := by omega
   have n2 : kx ≠ c + 1 + 1 := by omega
   have n3 : kx ≠ c + 1 + 1 + 1 := by omega
   have n4 : c ≠ c + 1 := by omega
   have n5 : c ≠ c + 1 + 1 := by omega
   have n6 : c ≠ c + 1 + 1 + 1 := by omega
   have ek2 : st.kind = 7 := by omega
   have ek3 : (7 : Int) = st.kind := by omega
   simp only [rvCells, ek2] at hx
   simp only [e7, nl7] at gt
   unfold rvFr
   rw [rd_38_7]
   generalize hr : execW E 38 p _ _ _ _ = ee
   simp -implicitDefEqProofs (maxSteps := 1000000) [-Int.natCast_add, Tryz.f38, Code.loopAt, Code.key, recCells, encRec, hx, o1, o2, o3, o4, o5, o6, n0, n1, n2, n3, n4, n5, n6, values_ok, gt, gx, hlt, hlt', hrl, hget?, hget, hw, hm1, hm2, hm3, e7, ek2, nat0, nl1, nl2, nl3, nl4, nl5, nl6, nl7] at hr
   subst hr
   simp [-Int.natCast_add]
   exact iterW_congr rfl rfl (by omega) (by simp -implicitDefEqProofs (disch := omega) only [own_du, drop_drop_cons, drop_upd, drop_drop, drop_drop_self, upd_upd]; rfl)
  ·have hst : st' = ⟨7, r.s, false, 0, st.unk, []⟩ := by
    have hp0 : rvPart st r = [] := by simp [rvPart, e7]
    rw [rvStep, if_neg ht'] at hs
    rw [if_neg e1, if_neg e2, if_neg (by omega), if_neg (by omega), hp0, e7] at hs
    exact (Option.some.inj hs).symm
   subst hst
   refine ⟨3, fun p kr kx c0 c h h1 h2 h3 hx => ?_⟩
   obtain ⟨o1, o2, o3, o4, o5, o6⟩ := own_facts (p := p) 36 kx
   have n0 : kx ≠ c := by omega
   have n1 : kx ≠ c + 1 := by omega
   have n2 : kx ≠ c + 1 + 1 := by omega
   have n3 : kx ≠ c + 1 + 1 + 1 := by omega
   have n4 : c ≠ c + 1 := by omega
   have n5 : c ≠ c + 1 + 1 := by omega
   have n6 : c ≠ c + 1 + 1 + 1 := by omega
   have ek2 : ¬ 7 = st.kind := by omega
   have ek3 : ¬ (7 : Int) = st.kind := by omega
   simp only [rvCells] at hx
   simp only [e7, nl7] at gt
   unfold rvFr
   rw [rd_38_7]
   generalize hr : execW E 38 p _ _ _ _ = ee
   simp -implicitDefEqProofs (maxSteps := 1000000) [-Int.natCast_add, Tryz.f38, Code.loopAt, Code.key, recCells, encRec, hx, o1, o2, o3, o4, o5, o6, n0, n1, n2, n3, n4, n5, n6, values_ok, gt, gx, hlt, hlt', hrl, hget?, hget, hw, hm1, hm2, hm3, e7, ek2, ek3, nat0, nl1, nl2, nl3, nl4, nl5, nl6, nl7] at hr
   subst hr
   simp [-Int.natCast_add]
   exact iterW_congr rfl rfl (by omega) (by simp -implicitDefEqProofs (disch := omega) only [own_du, drop_drop_cons, drop_upd, drop_drop, drop_drop_self, upd_upd]; rfl)
theorem rv_bad {st : RV} {r : Rec} (hs : rvStep st r = none) (hk : r.kind < 8) (hrl8 : r.s.length ≤ 1099511627776) {d : Int} {rs : List Rec} {i : Nat} (hlt : i < rs.length) (hbb : rs[i]? = some r) (hn : rs.length ≤ 1099511627776) :
  ∃ K part' cells', ∀ (p : Id) (kr kx c0 c : Nat) (h : Heap), kr < kx → kx < c0 → c0 ≤ c → h (36 :: kr :: p) = some zV → h (36 :: kx :: p) = some (rvCells st) →
   iterW E 38 p [1, 4, 5, 6, 8, 9, 10] L_38_7 c0 (rvFr p d kr kx rs st.part i) c h =
   some (.ret, rvFr p d kr kx rs part' i, c + K, upd (upd (dropFrom p c0 h) (36 :: kx :: p) cells') (36 :: kr :: p) zV) := by
 have ht' : takesV r.num r.kind = true := by
  cases ht : takesV r.num r.kind with
  | true => rfl
  | false => rw [rvStep, if_pos ht] at hs; cases hs
 have e1 : r.num = 1 := by
  rw [rvStep, if_neg (by simp [ht'])] at hs
  by_cases e : r.num = 1
  ·exact e
  ·rw [if_neg e] at hs; (repeat' split at hs) <;> cases hs
 have hx1 : textOk r.s = false := by
  cases hx : textOk r.s with
  | false => rfl
  | true => rw [rvStep, if_neg (by simp [ht']), if_pos e1, if_pos hx] at hs; cases hs
 have hlt' : (i : Int) < rs.length := by omega
 have hrl : (recsA rs).length = rs.length := by simp [recsA]
 have hget? : (recsA rs)[i]? = some (recCells r) := by simp [recsA, hbb]
 have hget : ∀ hl, (recsA rs)[i]'hl = recCells r := fun hl => by rw [List.getElem?_eq_getElem hl] at hget?; exact Option.some.inj hget?
 have gt := fun q h => takesR_ok (tb := [10, 16, 24, 33, 42, 50, 58]) (by simp) (by simp) r q h
 rw [tabV _ _ hk, ht'] at gt
 have gx := fun q h => rtext_ok hrl8 q h
 rw [show (uBad r.s).isNone = false from hx1] at gx
 simp only [encRec, recCells, e1, nl1] at gt
 refine ⟨4, [], [.int .i64 1, .str r.s, .bool false, .int .u64 0, .nils, .nils, .str [], .str st.unk], fun p kr kx c0 c h h1 h2 h3 hz hx => ?_⟩
 obtain ⟨o1, o2, o3, o4, o5, o6⟩ := own_facts (p := p) 36 kx
 obtain ⟨z1, z2, z3, z4, z5, z6⟩ := own_facts (p := p) 36 kr
 have n0 : kx ≠ c := by omega
 have n1 : kx ≠ c + 1 := by omega
 have n2 : kx ≠ c + 1 + 1 := by omega
 have n3 : kx ≠ c + 1 + 1 + 1 := by omega
 have n4 : c ≠ c + 1 := by omega
 have n5 : c ≠ c + 1 + 1 := by omega
 have n6 : c ≠ c + 1 + 1 + 1 := by omega
 have n7 : kr ≠ c := by omega
 have n8 : kr ≠ c + 1 := by omega
 have n9 : kr ≠ c + 1 + 1 := by omega
 have n10 : kr ≠ c + 1 + 1 + 1 := by omega
 have n11 : kr ≠ kx := by omega
 simp only [rvCells] at hx
 simp only [zV] at hz ⊢
 unfold rvFr
 rw [rd_38_7]
 generalize hr : execW E 38 p _ _ _ _ = ee
 by_cases ek : (1 : Int) = st.kind
 ·simp -implicitDefEqProofs (maxSteps := 1000000) [-Int.natCast_add, Tryz.f38, Code.loopAt, Code.key, recCells, encRec, hx, hz, o1, o2, o3, o4, o5, o6, z2, z3, z4, z5, n0, n1, n2, n3, n4, n5, n6, n7, n8, n9, n10, n11, values_ok, gt, gx, hlt, hlt', hrl, hget?, hget, e1, nl1, ← ek] at hr
  subst hr
  simp [-Int.natCast_add]
  simp -implicitDefEqProofs (disch := omega) only [own_du, drop_drop_cons, drop_upd, drop_drop, drop_drop_self, upd_upd]
 ·simp -implicitDefEqProofs (maxSteps := 1000000) [-Int.natCast_add, Tryz.f38, Code.loopAt, Code.key, recCells, encRec, hx, hz, o1, o2, o3, o4, o5, o6, z2, z3, z4, z5, n0, n1, n2, n3, n4, n5, n6, n7, n8, n9, n10, n11, values_ok, gt, gx, hlt, hlt', hrl, hget?, hget, e1, nl1, ek] at hr
  subst hr
  simp [-Int.natCast_add]
  simp -implicitDefEqProofs (disch := omega) only [own_du, drop_drop_cons, drop_upd, drop_drop, drop_drop_self, upd_upd]
theorem rvStep_len {st st' : RV} {r : Rec} (hs : rvStep st r = some st') : st'.unk.length ≤ st.unk.length + r.raw.length ∧ st'.part.length ≤ st.part.length + r.s.length := by
 have hp : (rvPart st r).length ≤ st.part.length := by unfold rvPart; split <;> simp
 unfold rvStep at hs
 (repeat' split at hs) <;> cases hs <;> simp <;> omega
theorem rv_stop {st : RV} {d : Int} {rs : List Rec} : ∀ (p : Id) (kr kx c0 c : Nat) (h : Heap), kx < c0 → h (36 :: kx :: p) = some (rvCells st) →
   iterW E 38 p [1, 4, 5, 6, 8, 9, 10] L_38_7 c0 (rvFr p d kr kx rs st.part rs.length) c h =
   some (.exit 0, rvFr p d kr kx rs st.part rs.length, c, upd (dropFrom p c0 h) (36 :: kx :: p) (rvCells st)) := by
 intro p kr kx c0 c h h2 hx
 have hlt' : ¬ ((rs.length : Nat) : Int) < rs.length := by omega
 have hrl : (recsA rs).length = rs.length := by simp [recsA]
 unfold rvFr
 rw [rd_38_7]
 generalize hr : execW E 38 p _ _ _ _ = e
 simp -implicitDefEqProofs (maxSteps := 1000000) [Tryz.f38, Code.loopAt, Code.key, hrl] at hr
 subst hr
 rw [upd_id (h := dropFrom p c0 h) (by rw [own_dg h2, hx])]
 simp
theorem rv_loop {d : Int} {rs : List Rec} (hn : rs.length ≤ 1099511627776) : ∀ (rest : List Rec) (i : Nat) (st st' : RV), rs.drop i = rest → i ≤ rs.length → (∀ r ∈ rest, r.kind < 8) → st.unk.length + rawLen rest ≤ 1099511627776 → st.part.length + strLen rest ≤ 1099511627776 → rvLoop st rest = some st' →
  ∃ K, ∀ (p : Id) (kr kx c0 c : Nat) (h : Heap), kr < kx → kx < c0 → c0 ≤ c → h (36 :: kx :: p) = some (rvCells st) →
   iterW E 38 p [1, 4, 5, 6, 8, 9, 10] L_38_7 c0 (rvFr p d kr kx rs st.part i) c h =
   some (.exit 0, rvFr p d kr kx rs st'.part rs.length, c + K, upd (dropFrom p c0 h) (36 :: kx :: p) (rvCells st')) := by
 intro rest
 induction rest with
 | nil =>
  intro i st st' hj hi _ _ _ hs
  cases hs
  have hlen : i = rs.length := by have := drop_end hj; omega
  subst hlen
  exact ⟨0, fun p kr kx c0 c h h1 h2 h3 hx => rv_stop p kr kx c0 c h h2 hx⟩
 | cons r rest ih =>
  intro i st st' hj hi hk hu hp hs
  obtain ⟨hlt, hbb, hbs⟩ := drop_facts hj
  rw [rawLen_cons] at hu
  rw [strLen_cons] at hp
  rw [rvLoop] at hs
  cases hst : rvStep st r with
  | none => rw [hst] at hs; cases hs
  | some st1 =>
   rw [hst] at hs
   have hl := rvStep_len hst
   obtain ⟨K2, g2⟩ := ih (i + 1) st1 st' hbs (by omega) (fun x hx => hk x (by simp [hx])) (by omega) (by omega) hs
   obtain ⟨K1, g1⟩ := rv_round (d := d) hst (hk r (by simp)) (by omega) hlt hbb hn (by omega) (by omega)
   refine ⟨K1 + K2, fun p kr kx c0 c h h1 h2 h3 hx => ?_⟩
   rw [g1 p kr kx c0 c h h1 h2 h3 hx, g2 p kr kx c0 (c + K1) _ h1 h2 (by omega) (by simp)]
   exact some5 rfl (by omega) (by simp -implicitDefEqProofs (disch := omega) only [own_du, drop_drop_cons, drop_upd, drop_drop, drop_drop_self, upd_upd])
theorem rv_fail {d : Int} {rs : List Rec} (hn : rs.length ≤ 1099511627776) : ∀ (rest : List Rec) (i : Nat) (st : RV), rs.drop i = rest → i ≤ rs.length → (∀ r ∈ rest, r.kind < 8) → st.unk.length + rawLen rest ≤ 1099511627776 → st.part.length + strLen rest ≤ 1099511627776 → rvLoop st rest = none →
  ∃ K part' cells' i', ∀ (p : Id) (kr kx c0 c : Nat) (h : Heap), kr < kx → kx < c0 → c0 ≤ c → h (36 :: kr :: p) = some zV → h (36 :: kx :: p) = some (rvCells st) →
   iterW E 38 p [1, 4, 5, 6, 8, 9, 10] L_38_7 c0 (rvFr p d kr kx rs st.part i) c h =
   some (.ret, rvFr p d kr kx rs part' i', c + K, upd (upd (dropFrom p c0 h) (36 :: kx :: p) cells') (36 :: kr :: p) zV) := by
 intro rest
 induction rest with
 | nil => intro i st hj hi _ _ _ hs; cases hs
 | cons r rest ih =>
  intro i st hj hi hk hu hp hs
  obtain ⟨hlt, hbb, hbs⟩ := drop_facts hj
  rw [rawLen_cons] at hu
  rw [strLen_cons] at hp
  rw [rvLoop] at hs
  cases hst : rvStep st r with
  | none =>
   obtain ⟨K, part', cells', g⟩ := rv_bad (d := d) hst (hk r (by simp)) (by omega) hlt hbb hn
   exact ⟨K, part', cells', i, g⟩
  | some st1 =>
   rw [hst] at hs
   have hl := rvStep_len hst
   obtain ⟨K2, part', cells', i', g2⟩ := ih (i + 1) st1 hbs (by omega) (fun x hx => hk x (by simp [hx])) (by omega) (by omega) hs
   obtain ⟨K1, g1⟩ := rv_round (d := d) hst (hk r (by simp)) (by omega) hlt hbb hn (by omega) (by omega)
   refine ⟨K1 + K2, part', cells', i', fun p kr kx c0 c h h1 h2 h3 hz hx => ?_⟩
   rw [g1 p kr kx c0 c h h1 h2 h3 hx, g2 p kr kx c0 (c + K1) _ h1 h2 (by omega) (by rw [upd_own_ne (by omega), own_dg (by omega), hz]) (by simp)]
   exact some5 rfl (by omega) (by simp -implicitDefEqProofs (disch := omega) only [own_du, drop_drop_cons, drop_upd, drop_drop, drop_drop_self, upd_upd])
end Go.Ai.T

namespace Go.Ai.T
open Go Go.Proofs
set_option maxRecDepth 100000
set_option maxHeartbeats 4000000
def rlVCells (xs : List Val) (u unk : List UInt8) : List A := [.int .i64 5, .str [], .bool false, .int .u64 0, growing (36, 8) (xs.map encV), .nils, .str u, .str unk]
def rlVFr (p : Id) (d : Int) (rs : List Rec) (ok : Bool) (i : Nat) : Fr := ((((((bot.set 10 (.int .i64 i)).set 9 (.bool ok)).set 8 (.slice (recsA rs) none)).set 6 (.ptr (36 :: 1 :: p) 0)).set 3 (.ptr (36 :: 0 :: p) 0)).set 2 (.int .i64 d))
theorem rlV_stop {d : Int} {rs : List Rec} (ok : Bool) {i : Nat} (hi : ok = false ∨ i = rs.length) : ∀ (p : Id) (c0 c : Nat) (h : Heap),
   iterW E 68 p [2, 3, 6, 8, 9, 10] L_68_3 c0 (rlVFr p d rs ok i) c h = some (.exit 0, rlVFr p d rs ok i, c, dropFrom p c0 h) := by
 intro p c0 c h
 have hrl : (recsA rs).length = rs.length := by simp [recsA]
 unfold rlVFr
 rw [rd_68_3]
 generalize hr : execW E 68 p _ _ _ _ = e
 by_cases hlt : i < rs.length
 ·have hlt' : (i : Int) < rs.length := by omega
  have hok : ok = false := by rcases hi with h | h; exact h; omega
  subst hok
  simp -implicitDefEqProofs (maxSteps := 1000000) [Tryz.f68, Code.loopAt, Code.key, hrl, hlt, hlt'] at hr
  subst hr
  simp
 ·have hlt' : ¬ (i : Int) < rs.length := by omega
  simp -implicitDefEqProofs (maxSteps := 1000000) [Tryz.f68, Code.loopAt, Code.key, hrl, hlt, hlt'] at hr
  subst hr
  simp
theorem rlV_round {d : Int} (hd0 : 0 ≤ d) (hd : d ≤ 9223372036854775807) {rd : List UInt8 → Option Val} {z : Val} {r : Rec} (hk : r.kind < 8) (hread : ∀ (q : Id) (h : Heap), callW E q 38 [.str r.s, .int .i64 (d - 1)] h = some (.tuple [.agg (encV ((rd r.s).getD z)), .bool (rd r.s).isSome], dropFrom q 0 h))
  {rs : List Rec} {i : Nat} (hlt : i < rs.length) (hbb : rs[i]? = some r) (hn : rs.length ≤ 549755813888) {xs : List Val} (hxl : xs.length ≤ i) {u unk : List UInt8} (hu : u.length + r.raw.length ≤ 1099511627776) :
  ∃ K, ∀ (p : Id) (c0 c : Nat) (h : Heap), 1 < c0 → c0 ≤ c → h (36 :: 0 :: p) = some (rlVCells xs u unk) →
   iterW E 68 p [2, 3, 6, 8, 9, 10] L_68_3 c0 (rlVFr p d rs true i) c h =
   iterW E 68 p [2, 3, 6, 8, 9, 10] L_68_3 c0 (rlVFr p d rs (if loneT r.num r.kind = true then (rd r.s).isSome else true) (i + 1)) (c + K) (upd (dropFrom p c0 h) (36 :: 0 :: p) (if loneT r.num r.kind = true then rlVCells (xs ++ [(rd r.s).getD z]) u unk else rlVCells xs (u ++ r.raw) unk)) := by
 have hlt' : (i : Int) < rs.length := by omega
 have hw : IntKind.i64.wrap ((i : Int) + 1) = ((i + 1 : Nat) : Int) := by rw [wrap_i64 (by omega) (by omega)]; rfl
 have hwd : IntKind.i64.wrap (d - 1) = d - 1 := wrap_i64 (by omega) (by omega)
 have hrl : (recsA rs).length = rs.length := by simp [recsA]
 have hget? : (recsA rs)[i]? = some (recCells r) := by simp [recsA, hbb]
 have hget : ∀ hl, (recsA rs)[i]'hl = recCells r := fun hl => by rw [List.getElem?_eq_getElem hl] at hget?; exact Option.some.inj hget?
 have gt := fun q h => takesR_ok (tb := [10]) (by simp) (by simp) r q h
 rw [tabL _ _ hk] at gt
 simp only [encRec, recCells] at gt
 have hl1 : (xs.map encV).length = xs.length := by simp
 have hmax : xs.length + 1 ≤ maxStr := by unfold maxStr; omega
 have hmax2 : (xs.length + 1) * 120 ≤ 140737488355328 := by omega
 have hm1 : u.length + r.raw.length ≤ maxStr := by unfold maxStr; omega
 cases ht : loneT r.num r.kind with
 | false =>
  rw [ht] at gt
  refine ⟨2, fun p c0 c h h1 h3 hx => ?_⟩
  obtain ⟨o1, o2, o3, o4, o5, o6⟩ := own_facts (p := p) 36 0
  have n0 : 0 ≠ c := by omega
  have n1 : 0 ≠ c + 1 := by omega
  have n2 : 0 ≠ c + 1 + 1 := by omega
  simp only [rlVCells] at hx
  unfold rlVFr
  rw [rd_68_3]
  generalize hr : execW E 68 p _ _ _ _ = ee
  simp -implicitDefEqProofs (maxSteps := 1000000) [-Int.natCast_add, Tryz.f68, Code.loopAt, Code.key, recCells, encRec, hx, o1, o2, o3, o4, o5, o6, n0, n1, n2, rlists_ok, gt, hlt, hlt', hrl, hget?, hget, hw, hm1] at hr
  subst hr
  simp [-Int.natCast_add]
  exact iterW_congr rfl rfl (by omega) (by simp -implicitDefEqProofs (disch := omega) only [own_du, drop_drop_cons, drop_upd, drop_drop, drop_drop_self, upd_upd]; rfl)
 | true =>
  rw [ht] at gt
  refine ⟨4, fun p c0 c h h1 h3 hx => ?_⟩
  obtain ⟨o1, o2, o3, o4, o5, o6⟩ := own_facts (p := p) 36 0
  have n0 : 0 ≠ c := by omega
  have n1 : 0 ≠ c + 1 := by omega
  have n2 : 0 ≠ c + 1 + 1 := by omega
  have n3 : 0 ≠ c + 1 + 1 + 1 := by omega
  simp only [rlVCells] at hx
  unfold rlVFr
  rw [rd_68_3]
  generalize hr : execW E 68 p _ _ _ _ = ee
  simp -implicitDefEqProofs (maxSteps := 1000000) [-Int.natCast_add, Tryz.f68, Code.loopAt, Code.key, recCells, encRec, hx, o1, o2, o3, o4, o5, o6, n0, n1, n2, n3, rlists_ok, gt, hlt, hlt', hrl, hget?, hget, hw, hwd, hread, hmax, hmax2] at hr
  subst hr
  have e6 : A.slice (xs.map encV ++ [encV ((rd r.s).getD z)]) (some (36, 8)) = growing (36, 8) ((xs ++ [(rd r.s).getD z]).map encV) := by
   rw [slice_growing]; simp
  simp [-Int.natCast_add, -List.map_append]
  rw [e6]
  exact iterW_congr rfl rfl (by omega) (by simp -implicitDefEqProofs (disch := omega) only [own_du, drop_drop_cons, drop_upd, drop_drop, drop_drop_self, upd_upd]; rfl)
theorem rlV_loop {d : Int} (hd0 : 0 ≤ d) (hd : d ≤ 9223372036854775807) {rd : List UInt8 → Option Val} {z : Val} {rs : List Rec} (hn : rs.length ≤ 549755813888) (hkd : ∀ r ∈ rs, r.kind < 8)
  (hread : ∀ r ∈ rs, ∀ (q : Id) (h : Heap), callW E q 38 [.str r.s, .int .i64 (d - 1)] h = some (.tuple [.agg (encV ((rd r.s).getD z)), .bool (rd r.s).isSome], dropFrom q 0 h)) {unk : List UInt8} :
  ∀ (rest : List Rec) (i : Nat) (xs : List Val) (u : List UInt8), rs.drop i = rest → i ≤ rs.length → xs.length ≤ i → u.length + rawLen rest ≤ 1099511627776 →
  ∃ K i' cells', (∀ x, rlLoop rd xs u rest = some x → cells' = rlVCells x.1 x.2 unk) ∧ ∀ (p : Id) (c0 c : Nat) (h : Heap), 1 < c0 → c0 ≤ c → h (36 :: 0 :: p) = some (rlVCells xs u unk) →
   iterW E 68 p [2, 3, 6, 8, 9, 10] L_68_3 c0 (rlVFr p d rs true i) c h =
   some (.exit 0, rlVFr p d rs (rlLoop rd xs u rest).isSome i', c + K, upd (dropFrom p c0 h) (36 :: 0 :: p) cells') := by
 intro rest
 induction rest with
 | nil =>
  intro i xs u hj hi hx hu
  have hlen : i = rs.length := by have := drop_end hj; omega
  refine ⟨0, rs.length, rlVCells xs u unk, (fun x h => by cases h; rfl), fun p c0 c h h1 h3 hh => ?_⟩
  subst hlen
  rw [rlV_stop true (.inr rfl) p c0 c h, upd_id (h := dropFrom p c0 h) (by rw [own_dg (by omega), hh])]
  rfl
 | cons r rest ih =>
  intro i xs u hj hi hx hu
  obtain ⟨hlt, hbb, hbs⟩ := drop_facts hj
  have hmem := List.mem_of_getElem? hbb
  rw [rawLen_cons] at hu
  obtain ⟨K1, g1⟩ := rlV_round hd0 hd (hkd r hmem) (hread r hmem) hlt hbb hn hx (u := u) (unk := unk) (by omega)
  cases ht : loneT r.num r.kind with
  | false =>
   obtain ⟨K2, i', cells', e2, g2⟩ := ih (i + 1) xs (u ++ r.raw) hbs (by omega) (by omega) (by simp; omega)
   rw [rlLoop, if_neg (by simp [ht])]
   refine ⟨K1 + K2, i', cells', e2, fun p c0 c h h1 h3 hx => ?_⟩
   rw [g1 p c0 c h h1 h3 hx]
   simp only [ht, Bool.false_eq_true, if_false]
   rw [g2 p c0 (c + K1) _ h1 (by omega) (by simp)]
   exact some5 rfl (by omega) (by simp -implicitDefEqProofs (disch := omega) only [own_du, drop_drop_cons, drop_upd, drop_drop, drop_drop_self, upd_upd])
  | true =>
   rw [rlLoop, if_pos ht]
   simp only [ht, if_true] at g1
   cases hv : rd r.s with
   | some v =>
    rw [hv] at g1
    simp only [Option.getD_some, Option.isSome_some] at g1
    obtain ⟨K2, i', cells', e2, g2⟩ := ih (i + 1) (xs ++ [v]) u hbs (by omega) (by simp; omega) (by omega)
    refine ⟨K1 + K2, i', cells', e2, fun p c0 c h h1 h3 hx => ?_⟩
    rw [g1 p c0 c h h1 h3 hx, g2 p c0 (c + K1) _ h1 (by omega) (by simp)]
    exact some5 rfl (by omega) (by simp -implicitDefEqProofs (disch := omega) only [own_du, drop_drop_cons, drop_upd, drop_drop, drop_drop_self, upd_upd])
   | none =>
    rw [hv] at g1
    simp only [Option.getD_none, Option.isSome_none] at g1
    refine ⟨K1, i + 1, rlVCells (xs ++ [z]) u unk, (fun x h => by cases h), fun p c0 c h h1 h3 hx => ?_⟩
    rw [g1 p c0 c h h1 h3 hx, rlV_stop false (.inl rfl)]
    exact some5 rfl (by omega) (by simp -implicitDefEqProofs (disch := omega) only [own_du, drop_drop_cons, drop_upd, drop_drop, drop_drop_self, upd_upd])
theorem readLV_ok {s : List UInt8} (hb : s.length ≤ 549755813888) {d : Int} (hd : d ≤ 9223372036854775807) {rd : List UInt8 → Option Val} {z : Val}
  (hread : ∀ t : List UInt8, t.length ≤ s.length → 0 ≤ d → ∀ (q : Id) (h : Heap), callW E q 38 [.str t, .int .i64 (d - 1)] h = some (.tuple [.agg (encV ((rd t).getD z)), .bool (rd t).isSome], dropFrom q 0 h)) (unk : List UInt8) (p : Id) (h : Heap) :
  callW E p 68 [.agg [.int .i64 5, .str [], .bool false, .int .u64 0, .nils, .nils, .str [], .str unk], .str s, .int .i64 d] h =
   some (.tuple [.agg (encV (match rlE rd s d with | some r => Val.mk 5 [] false 0 r.1 [] r.2 unk | none => val0)), .bool (rlE rd s d).isSome], dropFrom p 0 h) := by
 have gf := fun q h => fields_ok (s := s) (by omega) hd q h
 unfold rlE
 rw [eq_68]
 cases hv : fieldsE s d with
 | error x =>
  rw [hv] at gf
  simp only [encRAll] at gf
  have g := fun (c0 c : Nat) (h : Heap) => rlV_stop (d := d) (rs := []) false (i := 0) (.inl rfl) p c0 c h
  simp only [rlVFr, nat0, recsA, List.map_nil] at g
  simp -implicitDefEqProofs (maxSteps := 1000000) [Tryz.f68, Code.hide, Code.key, gf, g, val0, encV, encVs, encKs]
 | ok rs =>
  rw [hv] at gf
  simp only [encRAll] at gf
  have hd0 : 0 ≤ d := by
   unfold fieldsE at hv
   split at hv
   ·cases hv
   ·omega
  have hall : allE s d 0 = .ok rs := by
   unfold fieldsE at hv
   rwa [if_neg (by omega)] at hv
  have h1 := allE_raw 0 (Nat.zero_le _) rs hall
  have h2 := allE_short 0 (Nat.zero_le _) rs hall
  have h3 := allE_mem 0 (Nat.zero_le _) rs hall
  obtain ⟨K, i', cells', e, gl⟩ := rlV_loop hd0 hd (rs := rs) (by omega) (fun r hr => (h3 r hr).2.2.1) (fun r hr => hread r.s (h2 r hr) hd0) (unk := unk) rs 0 [] [] rfl (Nat.zero_le _) (Nat.le_refl _) (by simp; omega)
  have g := fun h => gl p 3 3 h (by omega) (by omega)
  simp only [rlVFr, rlVCells, nat0, List.map_nil, growing_nil] at g
  dsimp only
  cases hl : rlLoop rd [] [] rs with
  | none =>
   rw [hl] at g
   simp only [Option.isSome_none] at g
   simp -implicitDefEqProofs (maxSteps := 1000000) [Tryz.f68, Code.hide, Code.key, gf, g, val0, encV, encVs, encKs]
  | some x =>
   have e := e x hl
   subst e
   rw [hl] at g
   simp only [Option.isSome_some, rlVCells] at g
   simp -implicitDefEqProofs (maxSteps := 1000000) [Tryz.f68, Code.hide, Code.key, gf, g, encV_mk]
def rlKCells (xs : List KV) (u unk : List UInt8) : List A := [.int .i64 6, .str [], .bool false, .int .u64 0, .nils, growing (38, 11) (xs.map encK), .str u, .str unk]
def rlKFr (p : Id) (d : Int) (rs : List Rec) (ok : Bool) (i : Nat) : Fr := ((((((bot.set 10 (.int .i64 i)).set 9 (.bool ok)).set 8 (.slice (recsA rs) none)).set 6 (.ptr (36 :: 1 :: p) 0)).set 3 (.ptr (36 :: 0 :: p) 0)).set 2 (.int .i64 d))
theorem rlK_stop {d : Int} {rs : List Rec} (ok : Bool) {i : Nat} (hi : ok = false ∨ i = rs.length) : ∀ (p : Id) (c0 c : Nat) (h : Heap),
   iterW E 68 p [2, 3, 6, 8, 9, 10] L_68_3 c0 (rlKFr p d rs ok i) c h = some (.exit 0, rlKFr p d rs ok i, c, dropFrom p c0 h) := by
 intro p c0 c h
 have hrl : (recsA rs).length = rs.length := by simp [recsA]
 unfold rlKFr
 rw [rd_68_3]
 generalize hr : execW E 68 p _ _ _ _ = e
 by_cases hlt : i < rs.length
 ·have hlt' : (i : Int) < rs.length := by omega
  have hok : ok = false := by rcases hi with h | h; exact h; omega
  subst hok
  simp -implicitDefEqProofs (maxSteps := 1000000) [Tryz.f68, Code.loopAt, Code.key, hrl, hlt, hlt'] at hr
  subst hr
  simp
 ·have hlt' : ¬ (i : Int) < rs.length := by omega
  simp -implicitDefEqProofs (maxSteps := 1000000) [Tryz.f68, Code.loopAt, Code.key, hrl, hlt, hlt'] at hr
  subst hr
  simp
theorem rlK_round {d : Int} (hd0 : 0 ≤ d) (hd : d ≤ 9223372036854775807) {rd : List UInt8 → Option KV} {z : KV} {r : Rec} (hk : r.kind < 8) (hread : ∀ (q : Id) (h : Heap), callW E q 15 [.str r.s, .int .i64 (d - 1)] h = some (.tuple [.agg (encK ((rd r.s).getD z)), .bool (rd r.s).isSome], dropFrom q 0 h))
  {rs : List Rec} {i : Nat} (hlt : i < rs.length) (hbb : rs[i]? = some r) (hn : rs.length ≤ 549755813888) {xs : List KV} (hxl : xs.length ≤ i) {u unk : List UInt8} (hu : u.length + r.raw.length ≤ 1099511627776) :
  ∃ K, ∀ (p : Id) (c0 c : Nat) (h : Heap), 1 < c0 → c0 ≤ c → h (36 :: 0 :: p) = some (rlKCells xs u unk) →
   iterW E 68 p [2, 3, 6, 8, 9, 10] L_68_3 c0 (rlKFr p d rs true i) c h =
   iterW E 68 p [2, 3, 6, 8, 9, 10] L_68_3 c0 (rlKFr p d rs (if loneT r.num r.kind = true then (rd r.s).isSome else true) (i + 1)) (c + K) (upd (dropFrom p c0 h) (36 :: 0 :: p) (if loneT r.num r.kind = true then rlKCells (xs ++ [(rd r.s).getD z]) u unk else rlKCells xs (u ++ r.raw) unk)) := by
 have hlt' : (i : Int) < rs.length := by omega
 have hw : IntKind.i64.wrap ((i : Int) + 1) = ((i + 1 : Nat) : Int) := by rw [wrap_i64 (by omega) (by omega)]; rfl
 have hwd : IntKind.i64.wrap (d - 1) = d - 1 := wrap_i64 (by omega) (by omega)
 have hrl : (recsA rs).length = rs.length := by simp [recsA]
 have hget? : (recsA rs)[i]? = some (recCells r) := by simp [recsA, hbb]
 have hget : ∀ hl, (recsA rs)[i]'hl = recCells r := fun hl => by rw [List.getElem?_eq_getElem hl] at hget?; exact Option.some.inj hget?
 have gt := fun q h => takesR_ok (tb := [10]) (by simp) (by simp) r q h
 rw [tabL _ _ hk] at gt
 simp only [encRec, recCells] at gt
 have hl1 : (xs.map encK).length = xs.length := by simp
 have hmax : xs.length + 1 ≤ maxStr := by unfold maxStr; omega
 have hmax2 : (xs.length + 1) * 160 ≤ 140737488355328 := by omega
 have hm1 : u.length + r.raw.length ≤ maxStr := by unfold maxStr; omega
 cases ht : loneT r.num r.kind with
 | false =>
  rw [ht] at gt
  refine ⟨2, fun p c0 c h h1 h3 hx => ?_⟩
  obtain ⟨o1, o2, o3, o4, o5, o6⟩ := own_facts (p := p) 36 0
  have n0 : 0 ≠ c := by omega
  have n1 : 0 ≠ c + 1 := by omega
  have n2 : 0 ≠ c + 1 + 1 := by omega
  simp only [rlKCells] at hx
  unfold rlKFr
  rw [rd_68_3]
  generalize hr : execW E 68 p _ _ _ _ = ee
  simp -implicitDefEqProofs (maxSteps := 1000000) [-Int.natCast_add, Tryz.f68, Code.loopAt, Code.key, recCells, encRec, hx, o1, o2, o3, o4, o5, o6, n0, n1, n2, rlists_ok, gt, hlt, hlt', hrl, hget?, hget, hw, hm1] at hr
  subst hr
  simp [-Int.natCast_add]
  exact iterW_congr rfl rfl (by omega) (by simp -implicitDefEqProofs (disch := omega) only [own_du, drop_drop_cons, drop_upd, drop_drop, drop_drop_self, upd_upd]; rfl)
 | true =>
  rw [ht] at gt
  refine ⟨4, fun p c0 c h h1 h3 hx => ?_⟩
  obtain ⟨o1, o2, o3, o4, o5, o6⟩ := own_facts (p := p) 36 0
  have n0 : 0 ≠ c := by omega
  have n1 : 0 ≠ c + 1 := by omega
  have n2 : 0 ≠ c + 1 + 1 := by omega
  have n3 : 0 ≠ c + 1 + 1 + 1 := by omega
  simp only [rlKCells] at hx
  unfold rlKFr
  rw [rd_68_3]
  generalize hr : execW E 68 p _ _ _ _ = ee
  simp -implicitDefEqProofs (maxSteps := 1000000) [-Int.natCast_add, Tryz.f68, Code.loopAt, Code.key, recCells, encRec, hx, o1, o2, o3, o4, o5, o6, n0, n1, n2, n3, rlists_ok, gt, hlt, hlt', hrl, hget?, hget, hw, hwd, hread, hmax, hmax2] at hr
  subst hr
  have e6 : A.slice (xs.map encK ++ [encK ((rd r.s).getD z)]) (some (38, 11)) = growing (38, 11) ((xs ++ [(rd r.s).getD z]).map encK) := by
   rw [slice_growing]; simp
  simp [-Int.natCast_add, -List.map_append]
  rw [e6]
  exact iterW_congr rfl rfl (by omega) (by simp -implicitDefEqProofs (disch := omega) only [own_du, drop_drop_cons, drop_upd, drop_drop, drop_drop_self, upd_upd]; rfl)
theorem rlK_loop {d : Int} (hd0 : 0 ≤ d) (hd : d ≤ 9223372036854775807) {rd : List UInt8 → Option KV} {z : KV} {rs : List Rec} (hn : rs.length ≤ 549755813888) (hkd : ∀ r ∈ rs, r.kind < 8)
  (hread : ∀ r ∈ rs, ∀ (q : Id) (h : Heap), callW E q 15 [.str r.s, .int .i64 (d - 1)] h = some (.tuple [.agg (encK ((rd r.s).getD z)), .bool (rd r.s).isSome], dropFrom q 0 h)) {unk : List UInt8} :
  ∀ (rest : List Rec) (i : Nat) (xs : List KV) (u : List UInt8), rs.drop i = rest → i ≤ rs.length → xs.length ≤ i → u.length + rawLen rest ≤ 1099511627776 →
  ∃ K i' cells', (∀ x, rlLoop rd xs u rest = some x → cells' = rlKCells x.1 x.2 unk) ∧ ∀ (p : Id) (c0 c : Nat) (h : Heap), 1 < c0 → c0 ≤ c → h (36 :: 0 :: p) = some (rlKCells xs u unk) →
   iterW E 68 p [2, 3, 6, 8, 9, 10] L_68_3 c0 (rlKFr p d rs true i) c h =
   some (.exit 0, rlKFr p d rs (rlLoop rd xs u rest).isSome i', c + K, upd (dropFrom p c0 h) (36 :: 0 :: p) cells') := by
 intro rest
 induction rest with
 | nil =>
  intro i xs u hj hi hx hu
  have hlen : i = rs.length := by have := drop_end hj; omega
  refine ⟨0, rs.length, rlKCells xs u unk, (fun x h => by cases h; rfl), fun p c0 c h h1 h3 hh => ?_⟩
  subst hlen
  rw [rlK_stop true (.inr rfl) p c0 c h, upd_id (h := dropFrom p c0 h) (by rw [own_dg (by omega), hh])]
  rfl
 | cons r rest ih =>
  intro i xs u hj hi hx hu
  obtain ⟨hlt, hbb, hbs⟩ := drop_facts hj
  have hmem := List.mem_of_getElem? hbb
  rw [rawLen_cons] at hu
  obtain ⟨K1, g1⟩ := rlK_round hd0 hd (hkd r hmem) (hread r hmem) hlt hbb hn hx (u := u) (unk := unk) (by omega)
  cases ht : loneT r.num r.kind with
  | false =>
   obtain ⟨K2, i', cells', e2, g2⟩ := ih (i + 1) xs (u ++ r.raw) hbs (by omega) (by omega) (by simp; omega)
   rw [rlLoop, if_neg (by simp [ht])]
   refine ⟨K1 + K2, i', cells', e2, fun p c0 c h h1 h3 hx => ?_⟩
   rw [g1 p c0 c h h1 h3 hx]
   simp only [ht, Bool.false_eq_true, if_false]
   rw [g2 p c0 (c + K1) _ h1 (by omega) (by simp)]
   exact some5 rfl (by omega) (by simp -implicitDefEqProofs (disch := omega) only [own_du, drop_drop_cons, drop_upd, drop_drop, drop_drop_self, upd_upd])
  | true =>
   rw [rlLoop, if_pos ht]
   simp only [ht, if_true] at g1
   cases hv : rd r.s with
   | some v =>
    rw [hv] at g1
    simp only [Option.getD_some, Option.isSome_some] at g1
    obtain ⟨K2, i', cells', e2, g2⟩ := ih (i + 1) (xs ++ [v]) u hbs (by omega) (by simp; omega) (by omega)
    refine ⟨K1 + K2, i', cells', e2, fun p c0 c h h1 h3 hx => ?_⟩
    rw [g1 p c0 c h h1 h3 hx, g2 p c0 (c + K1) _ h1 (by omega) (by simp)]
    exact some5 rfl (by omega) (by simp -implicitDefEqProofs (disch := omega) only [own_du, drop_drop_cons, drop_upd, drop_drop, drop_drop_self, upd_upd])
   | none =>
    rw [hv] at g1
    simp only [Option.getD_none, Option.isSome_none] at g1
    refine ⟨K1, i + 1, rlKCells (xs ++ [z]) u unk, (fun x h => by cases h), fun p c0 c h h1 h3 hx => ?_⟩
    rw [g1 p c0 c h h1 h3 hx, rlK_stop false (.inl rfl)]
    exact some5 rfl (by omega) (by simp -implicitDefEqProofs (disch := omega) only [own_du, drop_drop_cons, drop_upd, drop_drop, drop_drop_self, upd_upd])
theorem readLK_ok {s : List UInt8} (hb : s.length ≤ 549755813888) {d : Int} (hd : d ≤ 9223372036854775807) {rd : List UInt8 → Option KV} {z : KV}
  (hread : ∀ t : List UInt8, t.length ≤ s.length → 0 ≤ d → ∀ (q : Id) (h : Heap), callW E q 15 [.str t, .int .i64 (d - 1)] h = some (.tuple [.agg (encK ((rd t).getD z)), .bool (rd t).isSome], dropFrom q 0 h)) (unk : List UInt8) (p : Id) (h : Heap) :
  callW E p 68 [.agg [.int .i64 6, .str [], .bool false, .int .u64 0, .nils, .nils, .str [], .str unk], .str s, .int .i64 d] h =
   some (.tuple [.agg (encV (match rlE rd s d with | some r => Val.mk 6 [] false 0 [] r.1 r.2 unk | none => val0)), .bool (rlE rd s d).isSome], dropFrom p 0 h) := by
 have gf := fun q h => fields_ok (s := s) (by omega) hd q h
 unfold rlE
 rw [eq_68]
 cases hv : fieldsE s d with
 | error x =>
  rw [hv] at gf
  simp only [encRAll] at gf
  have g := fun (c0 c : Nat) (h : Heap) => rlK_stop (d := d) (rs := []) false (i := 0) (.inl rfl) p c0 c h
  simp only [rlKFr, nat0, recsA, List.map_nil] at g
  simp -implicitDefEqProofs (maxSteps := 1000000) [Tryz.f68, Code.hide, Code.key, gf, g, val0, encV, encVs, encKs]
 | ok rs =>
  rw [hv] at gf
  simp only [encRAll] at gf
  have hd0 : 0 ≤ d := by
   unfold fieldsE at hv
   split at hv
   ·cases hv
   ·omega
  have hall : allE s d 0 = .ok rs := by
   unfold fieldsE at hv
   rwa [if_neg (by omega)] at hv
  have h1 := allE_raw 0 (Nat.zero_le _) rs hall
  have h2 := allE_short 0 (Nat.zero_le _) rs hall
  have h3 := allE_mem 0 (Nat.zero_le _) rs hall
  obtain ⟨K, i', cells', e, gl⟩ := rlK_loop hd0 hd (rs := rs) (by omega) (fun r hr => (h3 r hr).2.2.1) (fun r hr => hread r.s (h2 r hr) hd0) (unk := unk) rs 0 [] [] rfl (Nat.zero_le _) (Nat.le_refl _) (by simp; omega)
  have g := fun h => gl p 3 3 h (by omega) (by omega)
  simp only [rlKFr, rlKCells, nat0, List.map_nil, growing_nil] at g
  dsimp only
  cases hl : rlLoop rd [] [] rs with
  | none =>
   rw [hl] at g
   simp only [Option.isSome_none] at g
   simp -implicitDefEqProofs (maxSteps := 1000000) [Tryz.f68, Code.hide, Code.key, gf, g, val0, encV, encVs, encKs]
  | some x =>
   have e := e x hl
   subst e
   rw [hl] at g
   simp only [Option.isSome_some, rlKCells] at g
   simp -implicitDefEqProofs (maxSteps := 1000000) [Tryz.f68, Code.hide, Code.key, gf, g, encV_mk]
end Go.Ai.T

namespace Go.Ai.T
open Go Go.Proofs
set_option maxRecDepth 100000
set_option maxHeartbeats 4000000
theorem rvLoop_len : ∀ (rs : List Rec) (st st' : RV), rvLoop st rs = some st' → st'.part.length ≤ st.part.length + strLen rs
 | [], st, st', h => by cases h; omega
 | r :: rs, st, st', h => by
  rw [rvLoop] at h
  cases hs : rvStep st r with
  | none => rw [hs] at h; cases h
  | some st1 =>
   rw [hs] at h
   have h1 := rvStep_len hs
   have h2 := rvLoop_len rs st1 st' h
   rw [strLen_cons]; omega
theorem rv_list0 {st st' : RV} {r : Rec} (h : rvStep st r = some st') (hi : (st.kind = 5 ∨ st.kind = 6) → st.s = [] ∧ st.b = false ∧ st.n = 0) (hk : st'.kind = 5 ∨ st'.kind = 6) : st'.s = [] ∧ st'.b = false ∧ st'.n = 0 := by
 unfold rvStep at h
 split at h
 ·cases h; exact hi hk
 ·split at h
  ·split at h
   ·cases h; simp at hk
   ·cases h
  ·split at h
   ·cases h; simp at hk
   ·split at h
    ·cases h; dsimp only at hk; omega
    ·split at h
     ·cases h; exact ⟨rfl, rfl, rfl⟩
     ·rename_i h56; cases h; exact absurd hk h56
theorem rv_list1 : ∀ (rs : List Rec) (st st' : RV), rvLoop st rs = some st' → ((st.kind = 5 ∨ st.kind = 6) → st.s = [] ∧ st.b = false ∧ st.n = 0) → (st'.kind = 5 ∨ st'.kind = 6) → st'.s = [] ∧ st'.b = false ∧ st'.n = 0
 | [], st, st', h, hi, hk => by cases h; exact hi hk
 | r :: rs, st, st', h, hi, hk => by
  rw [rvLoop] at h
  cases hs : rvStep st r with
  | none => rw [hs] at h; cases h
  | some st1 =>
   rw [hs] at h
   exact rv_list1 rs st1 st' h (rv_list0 hs hi) hk
theorem rv_list {rs : List Rec} {st : RV} (h : rvLoop rv0 rs = some st) (hk : st.kind = 5 ∨ st.kind = 6) : st.s = [] ∧ st.b = false ∧ st.n = 0 := rv_list1 rs rv0 st h (by simp [rv0]) hk
theorem readVR_of {s : List UInt8} (hb : s.length ≤ 549755813888) {d : Int} (hd : d ≤ 9223372036854775807)
  (hV : ∀ t : List UInt8, t.length ≤ s.length → 0 ≤ d - 1 → ∀ (q : Id) (h : Heap), callW E q 38 [.str t, .int .i64 (d - 1 - 1)] h = some (.tuple [.agg (encV ((refV t (d - 2)).getD val0)), .bool (refV t (d - 2)).isSome], dropFrom q 0 h))
  (hK : ∀ t : List UInt8, t.length ≤ s.length → 0 ≤ d - 1 → ∀ (q : Id) (h : Heap), callW E q 15 [.str t, .int .i64 (d - 1 - 1)] h = some (.tuple [.agg (encK ((refK t (d - 2)).getD kv0)), .bool (refK t (d - 2)).isSome], dropFrom q 0 h)) (p : Id) (h : Heap) :
  callW E p 38 [.str s, .int .i64 d] h = some (.tuple [.agg (encV ((refV s d).getD val0)), .bool (refV s d).isSome], dropFrom p 0 h) := by
 have gf := fun q h => fields_ok (s := s) (by omega) hd q h
 have hz : encV val0 = [.int .i64 0, .str [], .bool false, .int .u64 0, .slice [] none, .slice [] none, .str [], .str []] := by simp [val0]
 cases hv : fieldsE s d with
 | error x =>
  have e : refV s d = none := by
   rw [refV]
   split
   ·rfl
   ·simp [rvE, hv]
  rw [hv] at gf
  simp only [encRAll] at gf
  rw [eq_38, e]
  simp -implicitDefEqProofs (maxSteps := 1000000) [Tryz.f38, Code.hide, Code.key, gf, hz]
 | ok rs =>
  obtain ⟨hd0, f1, f2, f3, f4, f5⟩ := fieldsE_facts hv
  have hwd : IntKind.i64.wrap (d - 1) = d - 1 := wrap_i64 (by omega) (by omega)
  rw [hv] at gf
  simp only [encRAll] at gf
  have er : refV s d = match rvLoop rv0 rs with
   | none => none
   | some st => if st.kind = 5 then (rlE (fun t => refV t (d - 2)) st.part (d - 1)).map fun r => .mk 5 [] false 0 r.1 [] r.2 st.unk
    else if st.kind = 6 then (rlE (fun t => refK t (d - 2)) st.part (d - 1)).map fun r => .mk 6 [] false 0 [] r.1 r.2 st.unk
    else some (.mk st.kind st.s st.b st.n [] [] [] st.unk) := by
   rw [refV, if_neg (by omega)]
   simp only [rvE, hv]
   cases rvLoop rv0 rs <;> rfl
  rw [er]
  cases hl : rvLoop rv0 rs with
  | none =>
   obtain ⟨K, part', cells', i', gl⟩ := rv_fail (d := d) (rs := rs) (by omega) rs 0 rv0 rfl (Nat.zero_le _) f4 (by simp [rv0]; omega) (by simp [rv0]; omega) hl
   have g := fun h => gl p 0 2 3 3 h (by omega) (by omega) (Nat.le_refl _)
   simp only [rvFr, rvCells, rv0, zV, nat0] at g
   rw [eq_38]
   simp -implicitDefEqProofs (maxSteps := 1000000) [Tryz.f38, Code.hide, Code.key, gf, g, hz]
  | some st =>
   have hpl := rvLoop_len rs rv0 st hl
   simp only [rv0, List.length_nil, Nat.zero_add] at hpl
   obtain ⟨K, gl⟩ := rv_loop (d := d) (rs := rs) (by omega) rs 0 rv0 st rfl (Nat.zero_le _) f4 (by simp [rv0]; omega) (by simp [rv0]; omega) hl
   have g := fun h => gl p 0 2 3 3 h (by omega) (by omega) (Nat.le_refl _)
   have nK : ¬ 0 = 3 + K := by omega
   simp only [rvFr, rvCells, rv0, nat0] at g
   dsimp only
   by_cases k5 : st.kind = 5
   ·have gL := fun q h => readLV_ok (s := st.part) (by omega) (d := d - 1) (by omega) (rd := fun t => refV t (d - 2)) (z := val0) (fun t ht h0 q h => hV t (by omega) h0 q h) st.unk q h
    have hk5 : rvLoop rv0 rs = some st → st.s = [] ∧ st.b = false ∧ st.n = 0 := fun _ => rv_list hl (.inl k5)
    obtain ⟨e1, e2, e3⟩ := hk5 hl
    rw [e1, e2, e3, k5] at g
    have nl5 : ((5 : Nat) : Int) = 5 := rfl
    simp only [nl5] at g
    rw [if_pos k5, eq_38]
    cases hr : rlE (fun t => refV t (d - 2)) st.part (d - 1) with
    | none =>
     rw [hr] at gL
     simp only [Option.isSome_none, hz] at gL
     simp -implicitDefEqProofs (maxSteps := 1000000) [Tryz.f38, Code.hide, Code.key, gf, g, gL, hz, hwd, nK]
    | some r =>
     rw [hr] at gL
     simp only [Option.isSome_some, encV_mk] at gL
     simp -implicitDefEqProofs (maxSteps := 1000000) [Tryz.f38, Code.hide, Code.key, gf, g, gL, hwd, nK]
   ·by_cases k6 : st.kind = 6
    ·have gL := fun q h => readLK_ok (s := st.part) (by omega) (d := d - 1) (by omega) (rd := fun t => refK t (d - 2)) (z := kv0) (fun t ht h0 q h => hK t (by omega) h0 q h) st.unk q h
     obtain ⟨e1, e2, e3⟩ := rv_list hl (.inr k6)
     rw [e1, e2, e3, k6] at g
     have nl6 : ((6 : Nat) : Int) = 6 := rfl
     simp only [nl6] at g
     rw [if_neg k5, if_pos k6, eq_38]
     cases hr : rlE (fun t => refK t (d - 2)) st.part (d - 1) with
     | none =>
      rw [hr] at gL
      simp only [Option.isSome_none, hz] at gL
      simp -implicitDefEqProofs (maxSteps := 1000000) [Tryz.f38, Code.hide, Code.key, gf, g, gL, hz, hwd, nK]
     | some r =>
      rw [hr] at gL
      simp only [Option.isSome_some, encV_mk] at gL
      simp -implicitDefEqProofs (maxSteps := 1000000) [Tryz.f38, Code.hide, Code.key, gf, g, gL, hwd, nK]
    ·have c5 : ¬ (st.kind : Int) = 5 := by omega
     have c6 : ¬ (st.kind : Int) = 6 := by omega
     rw [if_neg k5, if_neg k6, eq_38]
     simp -implicitDefEqProofs (maxSteps := 1000000) [Tryz.f38, Code.hide, Code.key, gf, g, c5, c6, k5, k6]
def rkCells (st : RK) : List A := .str st.key :: .bool st.has :: (zV ++ [.str st.unk])
def rkFr (p : Id) (d : Int) (kr kx : Nat) (rs : List Rec) (st : RK) (i : Nat) : Fr := (((((((bot.set 10 (.int .i64 i)).set 9 (.str st.part)).set 8 (.ptr (38 :: kx :: p) 0)).set 7 (.bool st.ok)).set 6 (.slice (recsA rs) none)).set 4 (.ptr (38 :: kr :: p) 0)).set 1 (.int .i64 d))
theorem rk_round {st : RK} {r : Rec} (hk : r.kind < 8) (hrl8 : r.s.length ≤ 1099511627776) {d : Int} {rs : List Rec} {i : Nat} (hlt : i < rs.length) (hbb : rs[i]? = some r) (hn : rs.length ≤ 1099511627776) (hu : st.unk.length + r.raw.length ≤ 1099511627776) (hp : st.part.length + r.s.length ≤ 1099511627776) :
  ∃ K, ∀ (p : Id) (kr kx c0 c : Nat) (h : Heap), kr < kx → kx < c0 → c0 ≤ c → h (38 :: kx :: p) = some (rkCells st) →
   iterW E 15 p [1, 4, 6, 7, 8, 9, 10] L_15_5 c0 (rkFr p d kr kx rs st i) c h =
   iterW E 15 p [1, 4, 6, 7, 8, 9, 10] L_15_5 c0 (rkFr p d kr kx rs (rkStep st r) (i + 1)) (c + K) (upd (dropFrom p c0 h) (38 :: kx :: p) (rkCells (rkStep st r))) := by
 have hlt' : (i : Int) < rs.length := by omega
 have hw : IntKind.i64.wrap ((i : Int) + 1) = ((i + 1 : Nat) : Int) := by rw [wrap_i64 (by omega) (by omega)]; rfl
 have hrl : (recsA rs).length = rs.length := by simp [recsA]
 have hget? : (recsA rs)[i]? = some (recCells r) := by simp [recsA, hbb]
 have hget : ∀ hl, (recsA rs)[i]'hl = recCells r := fun hl => by rw [List.getElem?_eq_getElem hl] at hget?; exact Option.some.inj hget?
 have gt := fun q h => takesR_ok (tb := [10, 18]) (by simp) (by simp) r q h
 rw [tabK _ _ hk] at gt
 simp only [encRec, recCells] at gt
 have gx := fun q h => rtext_ok hrl8 q h
 have hm1 : st.unk.length + r.raw.length ≤ maxStr := by unfold maxStr; omega
 have hm2 : st.part.length + r.s.length ≤ maxStr := by unfold maxStr; omega
 obtain ⟨key, has, unk, part, ok⟩ := st
 cases ht : takesK r.num r.kind with
 | false =>
  rw [ht] at gt
  have hst : rkStep ⟨key, has, unk, part, ok⟩ r = ⟨key, has, unk ++ r.raw, part, ok⟩ := by rw [rkStep, if_pos ht]
  rw [hst]
  refine ⟨3, fun p kr kx c0 c h h1 h2 h3 hx => ?_⟩
  obtain ⟨o1, o2, o3, o4, o5, o6⟩ := own_facts (p := p) 38 kx
  have n0 : kx ≠ c := by omega
  have n1 : kx ≠ c + 1 := by omega
  have n2 : kx ≠ c + 1 + 1 := by omega
  have n4 : c ≠ c + 1 := by omega
  have n5 : c ≠ c + 1 + 1 := by omega
  simp only [rkCells, zV, List.cons_append, List.nil_append] at hx
  unfold rkFr
  rw [rd_15_5]
  generalize hr : execW E 15 p _ _ _ _ = ee
  simp -implicitDefEqProofs (maxSteps := 1000000) [-Int.natCast_add, Tryz.f15, Code.loopAt, Code.key, recCells, encRec, hx, o1, o2, o3, o4, o5, o6, n0, n1, n2, n4, n5, pairs_ok, gt, hlt, hlt', hrl, hget?, hget, hw, hm1] at hr
  subst hr
  simp [-Int.natCast_add]
  exact iterW_congr rfl rfl (by omega) (by simp -implicitDefEqProofs (disch := omega) only [own_du, drop_drop_cons, drop_upd, drop_drop, drop_drop_self, upd_upd]; rfl)
 | true =>
  rw [ht] at gt
  by_cases e1 : r.num = 1
  ·have hst : rkStep ⟨key, has, unk, part, ok⟩ r = ⟨r.s, has, unk, part, ok && textOk r.s⟩ := by rw [rkStep, if_neg (by simp [ht]), if_pos e1]
   rw [hst]
   simp only [e1, nl1] at gt
   change ∀ q h, callW E q 37 [.str r.s] h = some (.bool (textOk r.s), dropFrom q 0 h) at gx
   cases ok with
   | true =>
    refine ⟨4, fun p kr kx c0 c h h1 h2 h3 hx => ?_⟩
    obtain ⟨o1, o2, o3, o4, o5, o6⟩ := own_facts (p := p) 38 kx
    have n0 : kx ≠ c := by omega
    have n1 : kx ≠ c + 1 := by omega
    have n2 : kx ≠ c + 1 + 1 := by omega
    have n3 : kx ≠ c + 1 + 1 + 1 := by omega
    have n4 : c ≠ c + 1 := by omega
    have n5 : c ≠ c + 1 + 1 := by omega
    have n6 : c ≠ c + 1 + 1 + 1 := by omega
    simp only [rkCells, zV, List.cons_append, List.nil_append] at hx
    unfold rkFr
    rw [rd_15_5]
    generalize hr : execW E 15 p _ _ _ _ = ee
    simp -implicitDefEqProofs (maxSteps := 1000000) [-Int.natCast_add, Tryz.f15, Code.loopAt, Code.key, recCells, encRec, hx, o1, o2, o3, o4, o5, o6, n0, n1, n2, n3, n4, n5, n6, pairs_ok, gt, gx, hlt, hlt', hrl, hget?, hget, hw, e1, nl1] at hr
    subst hr
    simp [-Int.natCast_add]
    exact iterW_congr rfl rfl (by omega) (by simp -implicitDefEqProofs (disch := omega) only [own_du, drop_drop_cons, drop_upd, drop_drop, drop_drop_self, upd_upd]; rfl)
   | false =>
    refine ⟨3, fun p kr kx c0 c h h1 h2 h3 hx => ?_⟩
    obtain ⟨o1, o2, o3, o4, o5, o6⟩ := own_facts (p := p) 38 kx
    have n0 : kx ≠ c := by omega
    have n1 : kx ≠ c + 1 := by omega
    have n2 : kx ≠ c + 1 + 1 := by omega
    have n4 : c ≠ c + 1 := by omega
    have n5 : c ≠ c + 1 + 1 := by omega
    simp only [rkCells, zV, List.cons_append, List.nil_append] at hx
    unfold rkFr
    rw [rd_15_5]
    generalize hr : execW E 15 p _ _ _ _ = ee
    simp -implicitDefEqProofs (maxSteps := 1000000) [-Int.natCast_add, Tryz.f15, Code.loopAt, Code.key, recCells, encRec, hx, o1, o2, o3, o4, o5, o6, n0, n1, n2, n4, n5, pairs_ok, gt, gx, hlt, hlt', hrl, hget?, hget, hw, e1, nl1] at hr
    subst hr
    simp [-Int.natCast_add]
    exact iterW_congr rfl rfl (by omega) (by simp -implicitDefEqProofs (disch := omega) only [own_du, drop_drop_cons, drop_upd, drop_drop, drop_drop_self, upd_upd]; rfl)
  ·have hst : rkStep ⟨key, has, unk, part, ok⟩ r = ⟨key, true, unk, part ++ r.s, ok⟩ := by rw [rkStep, if_neg (by simp [ht]), if_neg e1]
   rw [hst]
   have e1' : ¬ (r.num : Int) = 1 := by omega
   refine ⟨3, fun p kr kx c0 c h h1 h2 h3 hx => ?_⟩
   obtain ⟨o1, o2, o3, o4, o5, o6⟩ := own_facts (p := p) 38 kx
   have n0 : kx ≠ c := by omega
   have n1 : kx ≠ c + 1 := by omega
   have n2 : kx ≠ c + 1 + 1 := by omega
   have n4 : c ≠ c + 1 := by omega
   have n5 : c ≠ c + 1 + 1 := by omega
   simp only [rkCells, zV, List.cons_append, List.nil_append] at hx
   unfold rkFr
   rw [rd_15_5]
   generalize hr : execW E 15 p _ _ _ _ = ee
   simp -implicitDefEqProofs (maxSteps := 1000000) [-Int.natCast_add, Tryz.f15, Code.loopAt, Code.key, recCells, encRec, hx, o1, o2, o3, o4, o5, o6, n0, n1, n2, n4, n5, pairs_ok, gt, gx, hlt, hlt', hrl, hget?, hget, hw, hm2, e1, e1'] at hr
   subst hr
   simp [-Int.natCast_add]
   exact iterW_congr rfl rfl (by omega) (by simp -implicitDefEqProofs (disch := omega) only [own_du, drop_drop_cons, drop_upd, drop_drop, drop_drop_self, upd_upd]; rfl)
end Go.Ai.T

namespace Go.Ai.T
open Go Go.Proofs
set_option maxRecDepth 100000
set_option maxHeartbeats 4000000
theorem rkStep_len (st : RK) (r : Rec) : (rkStep st r).unk.length ≤ st.unk.length + r.raw.length ∧ (rkStep st r).part.length ≤ st.part.length + r.s.length := by
 unfold rkStep
 (repeat' split) <;> simp
theorem rk_len : ∀ (rs : List Rec) (st : RK), (rs.foldl rkStep st).part.length ≤ st.part.length + strLen rs
 | [], st => by simp
 | r :: rs, st => by
  have h1 := rkStep_len st r
  have h2 := rk_len rs (rkStep st r)
  rw [List.foldl_cons, strLen_cons]; omega
theorem rk_loop {d : Int} {rs : List Rec} (hn : rs.length ≤ 1099511627776) : ∀ (rest : List Rec) (i : Nat) (st : RK), rs.drop i = rest → i ≤ rs.length → (∀ r ∈ rest, r.kind < 8) → st.unk.length + rawLen rest ≤ 1099511627776 → st.part.length + strLen rest ≤ 1099511627776 →
  ∃ K, ∀ (p : Id) (kr kx c0 c : Nat) (h : Heap), kr < kx → kx < c0 → c0 ≤ c → h (38 :: kx :: p) = some (rkCells st) →
   iterW E 15 p [1, 4, 6, 7, 8, 9, 10] L_15_5 c0 (rkFr p d kr kx rs st i) c h =
   some (.exit 0, rkFr p d kr kx rs (rest.foldl rkStep st) rs.length, c + K, upd (dropFrom p c0 h) (38 :: kx :: p) (rkCells (rest.foldl rkStep st))) := by
 intro rest
 induction rest with
 | nil =>
  intro i st hj hi _ _ _
  have hlen : i = rs.length := by have := drop_end hj; omega
  subst hlen
  refine ⟨0, fun p kr kx c0 c h h1 h2 h3 hx => ?_⟩
  have hlt' : ¬ ((rs.length : Nat) : Int) < rs.length := by omega
  have hrl : (recsA rs).length = rs.length := by simp [recsA]
  unfold rkFr
  rw [rd_15_5]
  generalize hr : execW E 15 p _ _ _ _ = e
  simp -implicitDefEqProofs (maxSteps := 1000000) [Tryz.f15, Code.loopAt, Code.key, hrl] at hr
  subst hr
  rw [List.foldl_nil, upd_id (h := dropFrom p c0 h) (by rw [own_dg h2, hx])]
  simp
 | cons r rest ih =>
  intro i st hj hi hk hu hp
  obtain ⟨hlt, hbb, hbs⟩ := drop_facts hj
  rw [rawLen_cons] at hu
  rw [strLen_cons] at hp
  have hl := rkStep_len st r
  obtain ⟨K2, g2⟩ := ih (i + 1) (rkStep st r) hbs (by omega) (fun x hx => hk x (by simp [hx])) (by omega) (by omega)
  obtain ⟨K1, g1⟩ := rk_round (d := d) (st := st) (hk r (by simp)) (by omega) hlt hbb hn (by omega) (by omega)
  refine ⟨K1 + K2, fun p kr kx c0 c h h1 h2 h3 hx => ?_⟩
  rw [g1 p kr kx c0 c h h1 h2 h3 hx, g2 p kr kx c0 (c + K1) _ h1 h2 (by omega) (by simp)]
  exact some5 rfl (by omega) (by simp -implicitDefEqProofs (disch := omega) only [own_du, drop_drop_cons, drop_upd, drop_drop, drop_drop_self, upd_upd] <;> rfl)
theorem readKR_of {s : List UInt8} (hb : s.length ≤ 549755813888) {d : Int} (hd : d ≤ 9223372036854775807)
  (hV : ∀ t : List UInt8, t.length ≤ s.length → 0 ≤ d → ∀ (q : Id) (h : Heap), callW E q 38 [.str t, .int .i64 (d - 1)] h = some (.tuple [.agg (encV ((refV t (d - 1)).getD val0)), .bool (refV t (d - 1)).isSome], dropFrom q 0 h)) (p : Id) (h : Heap) :
  callW E p 15 [.str s, .int .i64 d] h = some (.tuple [.agg (encK ((refK s d).getD kv0)), .bool (refK s d).isSome], dropFrom p 0 h) := by
 have gf := fun q h => fields_ok (s := s) (by omega) hd q h
 have hz : encK kv0 = [.str [], .bool false, .int .i64 0, .str [], .bool false, .int .u64 0, .slice [] none, .slice [] none, .str [], .str [], .str []] := by simp [kv0, val0]
 have hk : ∀ (key : List UInt8) (has : Bool) (v : Val) (unk : List UInt8), encK (.mk key has v unk) = .str key :: .bool has :: (encV v ++ [.str unk]) := fun _ _ _ _ => by simp
 cases hv : fieldsE s d with
 | error x =>
  have e : refK s d = none := by
   rw [refK]
   split
   ·rfl
   ·simp [rkE, hv]
  rw [hv] at gf
  simp only [encRAll] at gf
  have gl := rk_loop (d := d) (rs := []) (by simp) [] 0 ⟨[], false, [], [], false⟩ rfl (Nat.zero_le _) (by simp) (by simp [rawLen]) (by simp [strLen])
  obtain ⟨K, gl⟩ := gl
  have g := fun h => gl p 0 2 3 3 h (by omega) (by omega) (Nat.le_refl _)
  simp only [rkFr, rkCells, zV, List.foldl_nil, recsA, List.map_nil, List.length_nil, nat0, List.cons_append, List.nil_append] at g
  rw [eq_15, e]
  simp -implicitDefEqProofs (maxSteps := 1000000) [Tryz.f15, Code.hide, Code.key, gf, g, hz]
 | ok rs =>
  obtain ⟨hd0, f1, f2, f3, f4, f5⟩ := fieldsE_facts hv
  have hwd : IntKind.i64.wrap (d - 1) = d - 1 := wrap_i64 (by omega) (by omega)
  rw [hv] at gf
  simp only [encRAll] at gf
  obtain ⟨K, gl⟩ := rk_loop (d := d) (rs := rs) (by omega) rs 0 rk0 rfl (Nat.zero_le _) f4 (by simp [rk0]; omega) (by simp [rk0]; omega)
  have hpl := rk_len rs rk0
  have g := fun h => gl p 0 2 3 3 h (by omega) (by omega) (Nat.le_refl _)
  have nK : ¬ 0 = 3 + K := by omega
  have nK2 : ¬ 2 = 3 + K := by omega
  have er : refK s d = if (rs.foldl rkStep rk0).ok = true then (if (rs.foldl rkStep rk0).has = true then (refV (rs.foldl rkStep rk0).part (d - 1)).map fun v => .mk (rs.foldl rkStep rk0).key true v (rs.foldl rkStep rk0).unk
    else some (.mk (rs.foldl rkStep rk0).key false val0 (rs.foldl rkStep rk0).unk)) else none := by
   rw [refK, if_neg (by omega)]
   simp only [rkE, hv]
   cases (rs.foldl rkStep rk0).ok <;> simp
  rw [er]
  generalize rs.foldl rkStep rk0 = st at *
  obtain ⟨key, has, unk, part, ok⟩ := st
  simp only [rk0, List.length_nil, Nat.zero_add] at hpl
  simp only [rkFr, rkCells, zV, rk0, nat0, List.cons_append, List.nil_append] at g
  dsimp only
  cases ok with
  | false =>
   rw [eq_15]
   simp -implicitDefEqProofs (maxSteps := 1000000) [Tryz.f15, Code.hide, Code.key, gf, g, hz]
  | true =>
   cases has with
   | false =>
    rw [eq_15]
    simp -implicitDefEqProofs (maxSteps := 1000000) [Tryz.f15, Code.hide, Code.key, gf, g, val0]
   | true =>
    have gV := fun q h => hV part (by omega) hd0 q h
    rw [eq_15]
    cases hr : refV part (d - 1) with
    | none =>
     rw [hr] at gV
     have hz0 : encV val0 = [.int .i64 0, .str [], .bool false, .int .u64 0, .slice [] none, .slice [] none, .str [], .str []] := by simp [val0]
     simp only [Option.getD_none, Option.isSome_none, hz0] at gV
     simp -implicitDefEqProofs (maxSteps := 1000000) [Tryz.f15, Code.hide, Code.key, gf, g, gV, hz, hwd, nK, nK2]
    | some v =>
     obtain ⟨vk, vs, vb, vn, vl, vm, vi, vu⟩ := v
     rw [hr] at gV
     simp only [Option.getD_some, Option.isSome_some, encV_mk] at gV
     simp -implicitDefEqProofs (maxSteps := 1000000) [Tryz.f15, Code.hide, Code.key, gf, g, gV, hwd, nK, nK2]
theorem rread_all : ∀ (m : Nat) (d : Int), (d + 1).toNat ≤ m → d ≤ 9223372036854775807 → ∀ s : List UInt8, s.length ≤ 549755813888 →
  (∀ (p : Id) (h : Heap), callW E p 38 [.str s, .int .i64 d] h = some (.tuple [.agg (encV ((refV s d).getD val0)), .bool (refV s d).isSome], dropFrom p 0 h)) ∧
  (∀ (p : Id) (h : Heap), callW E p 15 [.str s, .int .i64 d] h = some (.tuple [.agg (encK ((refK s d).getD kv0)), .bool (refK s d).isSome], dropFrom p 0 h)) := by
 intro m
 induction m with
 | zero =>
  intro d hm hd s hb
  exact ⟨fun p h => readVR_of hb hd (fun t _ h0 => by omega) (fun t _ h0 => by omega) p h, fun p h => readKR_of hb hd (fun t _ h0 => by omega) p h⟩
 | succ m ih =>
  intro d hm hd s hb
  refine ⟨fun p h => readVR_of hb hd (fun t ht h0 q h => ?_) (fun t ht h0 q h => ?_) p h, fun p h => readKR_of hb hd (fun t ht h0 q h => ?_) p h⟩
  ·rw [show d - 1 - 1 = d - 2 by omega]; exact (ih (d - 2) (by omega) (by omega) t (by omega)).1 q h
  ·rw [show d - 1 - 1 = d - 2 by omega]; exact (ih (d - 2) (by omega) (by omega) t (by omega)).2 q h
  ·exact (ih (d - 1) (by omega) (by omega) t (by omega)).1 q h
theorem readVR_ok {s : List UInt8} (hb : s.length ≤ 549755813888) {d : Int} (hd : d ≤ 9223372036854775807) (p : Id) (h : Heap) : callW E p 38 [.str s, .int .i64 d] h = some (.tuple [.agg (encV ((refV s d).getD val0)), .bool (refV s d).isSome], dropFrom p 0 h) :=
 (rread_all _ d (Nat.le_refl _) hd s hb).1 p h
theorem readKR_ok {s : List UInt8} (hb : s.length ≤ 549755813888) {d : Int} (hd : d ≤ 9223372036854775807) (p : Id) (h : Heap) : callW E p 15 [.str s, .int .i64 d] h = some (.tuple [.agg (encK ((refK s d).getD kv0)), .bool (refK s d).isSome], dropFrom p 0 h) :=
 (rread_all _ d (Nat.le_refl _) hd s hb).2 p h
end Go.Ai.T

