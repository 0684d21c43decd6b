/- Part KX of the proof that a law of this program answers yes at every input: no conditions beyond the given statement. -/
import Derived.Test.YtgionjiabklccaaGreatDoorKE
import Derived.Test.YtgionjiabklccaaGreatDoorKQ
import Derived.Test.YtgionjiabklccaaGreatDoorKT
set_option linter.unusedSimpArgs false
set_option linter.unusedVariables false
set_option linter.all false
namespace Go.Ai.T
open Go Go.Proofs
set_option maxRecDepth 100000
set_option maxHeartbeats 4000000
theorem lawSummJoins {s t : List UInt8} (hs : s.length ≤ maxStr) (ht : t.length ≤ maxStr) {d : Int} (hd1 : -9223372036854775808 ≤ d) (hd : d ≤ 9223372036854775807) :
  ∃ h', callW E [] 4 [.str s, .str t, .int .i64 d] (fun _ => none) = some (.bool true, h') := by
 have f := fun q h => first15_ok q h
 rw [eq_4]
 by_cases hl : (3000 : Int) < s.length
 ·have hl' : 3000 < s.length := by omega
  simp -implicitDefEqProofs (maxSteps := 1000000) [Tryz.f4, Code.key, f, hl, hl']
 have hl' : ¬ 3000 < s.length := by omega
 by_cases kl : (3000 : Int) < t.length
 ·have kl' : 3000 < t.length := by omega
  simp -implicitDefEqProofs (maxSteps := 1000000) [Tryz.f4, Code.key, f, hl, hl', kl, kl']
 have kl' : ¬ 3000 < t.length := by omega
 have mx : s.length + t.length ≤ maxStr := by unfold maxStr; omega
 have u1 := fun q h => cunmSm_ok (s := s) (by omega) hd q h
 have u2 := fun q h => cunmSm_ok (s := t) (by omega) hd q h
 have u3 := fun q h => cunmSm_ok (s := s ++ t) (by rw [List.length_append]; omega) hd q h
 have w1 := readSm_wf (s := s) (by omega) d
 have w2 := readSm_wf (s := t) (by omega) d
 have w3 := readSm_wf (s := s ++ t) (by rw [List.length_append]; omega) d
 have j := joinSm (s := s) (t := t) (d := d)
 generalize (readSm s d) = x at *
 generalize (readSm t d) = y at *
 generalize (readSm (s ++ t) d) = z at *
 obtain ⟨x, e1⟩ := x
 obtain ⟨y, e2⟩ := y
 obtain ⟨z, e3⟩ := z
 dsimp only at j w1 w2 w3 u1 u2 u3
 cases e1 with
 | some e =>
  obtain ⟨t1, a1, hy1⟩ := encE_iface e
  cases e3 with
  | none =>
   cases e2 with
   | none =>
    simp only [encO_none, encO_some, hy1, encSumm] at u1 u2 u3
    simp -implicitDefEqProofs (maxSteps := 1000000) [Tryz.f4, Code.key, f, hl, hl', kl, kl', mx, u1, u2, u3]
   | some e' =>
    obtain ⟨t2, a2, hy2⟩ := encE_iface e'
    simp only [encO_none, encO_some, hy1, hy2, encSumm] at u1 u2 u3
    simp -implicitDefEqProofs (maxSteps := 1000000) [Tryz.f4, Code.key, f, hl, hl', kl, kl', mx, u1, u2, u3]
  | some e'' =>
   obtain ⟨t3, a3, hy3⟩ := encE_iface e''
   cases e2 with
   | none =>
    simp only [encO_none, encO_some, hy1, hy3, encSumm] at u1 u2 u3
    simp -implicitDefEqProofs (maxSteps := 1000000) [Tryz.f4, Code.key, f, hl, hl', kl, kl', mx, u1, u2, u3]
   | some e' =>
    obtain ⟨t2, a2, hy2⟩ := encE_iface e'
    simp only [encO_none, encO_some, hy1, hy2, hy3, encSumm] at u1 u2 u3
    simp -implicitDefEqProofs (maxSteps := 1000000) [Tryz.f4, Code.key, f, hl, hl', kl, kl', mx, u1, u2, u3]
 | none =>
  cases e2 with
  | some e' =>
   obtain ⟨t2, a2, hy2⟩ := encE_iface e'
   cases e3 with
   | none =>
    simp only [encO_none, encO_some, hy2, encSumm] at u1 u2 u3
    simp -implicitDefEqProofs (maxSteps := 1000000) [Tryz.f4, Code.key, f, hl, hl', kl, kl', mx, u1, u2, u3]
   | some e'' =>
    obtain ⟨t3, a3, hy3⟩ := encE_iface e''
    simp only [encO_none, encO_some, hy2, hy3, encSumm] at u1 u2 u3
    simp -implicitDefEqProofs (maxSteps := 1000000) [Tryz.f4, Code.key, f, hl, hl', kl, kl', mx, u1, u2, u3]
  | none =>
   obtain ⟨j1, j2, j3, j4, j5⟩ := j rfl rfl
   subst j1
   have hzl : x.attrs.length + y.attrs.length ≤ maxStr := by
    have := w3.len
    rwa [j3, List.length_append] at this
   have hzu : x.unk.length + y.unk.length ≤ maxStr := by
    have := w3.ulen
    rwa [j2, List.length_append] at this
   have hzq : x.quants.length + y.quants.length ≤ maxStr := by
    have := w3.qlen
    rwa [j4, List.length_append] at this
   have hw : IntKind.i64.wrap ((x.attrs.length : Int) + (y.attrs.length : Int)) = (x.attrs.length : Int) + (y.attrs.length : Int) := wrap_i64 (by omega) (by unfold maxStr at hzl; omega)
   have hwq : IntKind.i64.wrap ((x.quants.length : Int) + (y.quants.length : Int)) = (x.quants.length : Int) + (y.quants.length : Int) := wrap_i64 (by omega) (by unfold maxStr at hzq; omega)
   simp only [encO_none, encSumm, j2, j3, j4, List.map_append] at u1 u2 u3
   by_cases hy0 : y.sum = 0
   ·have hy0' : (y.sum : Int) = 0 := by omega
    simp -implicitDefEqProofs (maxSteps := 1000000) [Tryz.f4, Code.key, f, hl, hl', kl, kl', mx, u1, u2, u3, hzl, hzu, hzq, hw, hwq, hy0, hy0']
   ·have hy0' : ¬ (y.sum : Int) = 0 := by omega
    have e5 := j5 hy0
    simp -implicitDefEqProofs (maxSteps := 1000000) [Tryz.f4, Code.key, f, hl, hl', kl, kl', mx, u1, u2, u3, hzl, hzu, hzq, hw, hwq, hy0, hy0', e5]
end Go.Ai.T

namespace Go.Proofs.YtgionjiabklccaaGreatDoor
open Go.ChangeShapes Go.WideShapes Go.RowKit
set_option maxRecDepth 100000
theorem law4 (xs : List Go.Ai.A) (h : Go.Ai.ArgsT Go.Ai.T.E.P Tryz.f4.params.toList xs) : ∃ h', Go.Ai.callW Go.Ai.T.E [] 4 xs (fun _ => none) = some (.bool true, h') := by
 have hp : Tryz.f4.params.toList = [9, 9, 3] := by kernel_rfl
 rw [hp] at h
 cases h with
 | cons h0 h =>
  cases h with
  | cons h1 h =>
   cases h with
   | cons h2 h =>
    cases h
    obtain ⟨x0, rfl, hx0⟩ := argS h0
    obtain ⟨x1, rfl, hx1⟩ := argS h1
    obtain ⟨x2, rfl, hx2, hy2⟩ := argI h2
    exact Go.Ai.T.lawSummJoins hx0 hx1 hx2 hy2
theorem lifted4 (os : Os) (started : os.Started) (H : Type) (enc : TypeId × Value → H) :
  ReturnsInHanded {} Tryz.checked os 4 .any (fun w args => (Rows.summJoinsSpec.pre enc Tryz.prog Tryz.f4 [] false w args ∧ laidMetH Tryz.prog laidList w) ∧ sizedMet enc Tryz.prog Tryz.f4 (OpenSpec.ofChange Rows.summJoinsSpec) false w args)
   (Rows.summJoinsSpec.post enc Tryz.prog Tryz.f4 false true false false) := by
 refine returnsInHanded_of_change_and (C := Tryz.checked) (X := fun w _ => laidMetH Tryz.prog laidList w) (fun _ _ _ hh h => h.of_heap hh) Tryz.own started (by kernel_rfl) Tryz.func4
  (ChangeSpec.witness_at (enc := enc) (C := Tryz.checked) (os := os) (X := fun w _ => laidMetH Tryz.prog laidList w) false (laidWorld os)
   #[.string ⟨#[]⟩, .string ⟨#[]⟩, .int .i64 0] 8 rfl (by kernel_rfl) (by kernel_rfl) (by kernel_rfl) (by kernel_rfl) (by kernel_rfl) (laidWorld_met os _)) ?_
 intro W base args ds gs before hval hW _ _ hL _
 exact Go.Ai.law_contract (E := Go.Ai.T.E) (ts := [3, 4, 9, 23, 24, 25, 26, 28, 52, 57, 59, 61]) (tb := 4) (fn := Tryz.f4) plain_ok laidOut (by kernel_rfl) (by kernel_rfl) Tryz.underlying4 rfl
  (by
   intro ds hds
   have hp : Tryz.f4.params.size = 3 := by kernel_rfl
   rw [hp] at hds
   match ds, hds with
   | [d0, d1, d2], _ => rfl) law4 (Go.Ai.T.envS_ok (handle_of_laid hL)) hval hW
theorem holds4 : Rows.SummJoinsSaid :=
 OpenClaim.holds_of_wide 4 Tryz.f4 rfl rfl rfl rfl rfl rfl rfl ⟨rfl, rfl, rfl, rfl, rfl⟩ rfl rfl rfl rfl rfl (by kernel_rfl) Tryz.func4 (by kernel_rfl)
  (of_decide_eq_true (by kernel_rfl)) (by unfold Func.isWrapper; rw [if_neg (of_decide_eq_false (by kernel_rfl))]; exact ⟨rfl, rfl⟩)
  (fun os started H enc _ => lifted4 os started H enc)
theorem summJoins_holds : Rows.SummJoinsCardSaid :=
 Claim7.holds_tied_plain_at .later [] [.handle] true (true, "d249bb353b0ad4876e1e511082de94de7d0f42723eb5e98361d7bcae220c76ed") true
  holds4 (fun _ h => by cases h) (by kernel_rfl) (fun _ h => by cases h) summJoins_row_tie rfl ⟨rfl, rfl⟩ (by kernel_rfl) rfl
  (fun f fn hf hfn => by
   obtain rfl : f = 4 := Option.some.inj ((show Tryz.prog.funcNamed "hygrometer/hyglaw15.SummJoins" = some 4 by kernel_rfl).symm.trans hf) |>.symm
   obtain rfl : fn = Tryz.f4 := (Option.some.inj (Tryz.func4.symm.trans hfn)).symm
   have hall : (Tryz.f4.params.toList.all fun t => !(Tryz.prog.wantsStandIn t)) = true := by kernel_rfl
   exact ⟨by kernel_rfl, fun j t ht => by
    have hm : t ∈ Tryz.f4.params.toList := by
     rw [← Array.getElem?_toList] at ht
     exact List.mem_of_getElem? ht
    have := List.all_eq_true.1 hall t hm
    simp only [Bool.not_eq_true'] at this
    exact this⟩)
  (by kernel_rfl)
end Go.Proofs.YtgionjiabklccaaGreatDoor

