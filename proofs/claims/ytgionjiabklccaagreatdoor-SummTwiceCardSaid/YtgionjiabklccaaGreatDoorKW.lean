/- Part KW of the proof that a law of this program answers yes at every input: no conditions beyond the given statement. -/
import Derived.Test.YtgionjiabklccaaGreatDoorKE
import Derived.Test.YtgionjiabklccaaGreatDoorKQ
import Derived.Test.YtgionjiabklccaaGreatDoorKT
set_option linter.unusedSimpArgs false
set_option linter.unusedVariables false
set_option linter.all false
namespace Go.Ai.T
open Go Go.Proofs
set_option maxRecDepth 100000
set_option maxHeartbeats 4000000
open Classical in
theorem lawSummTwice {s : List UInt8} (hs : s.length ≤ maxStr) {d : Int} (hd1 : -9223372036854775808 ≤ d) (hd : d ≤ 9223372036854775807) :
  ∃ h', callW E [] 9 [.str s, .int .i64 d] (fun _ => none) = some (.bool true, h') := by
 have f := fun q h => first15_ok q h
 rw [eq_9]
 by_cases hl : (6000 : Int) < s.length
 ·have hl' : 6000 < s.length := by omega
  simp -implicitDefEqProofs (maxSteps := 1000000) [Tryz.f9, Code.key, f, hl, hl']
 have hl' : ¬ 6000 < s.length := by omega
 have u1 := fun q h => cunmSm_ok (s := s) (by omega) hd q h
 cases he : (readSm s d).2 with
 | some y =>
  obtain ⟨t, a, hy⟩ := encE_iface y
  have hz : (readSm s d).1 = summ0 := kitSm_ok.read_bad s d y he
  have ss := fun q h => csameSm_ok (a := summ0) (b := summ0) zero_wfSm q h
  rw [he, hz] at u1
  simp only [decide_true] at ss
  simp only [encO_some, hy, encSumm, summ0, List.map_nil, nat0] at u1 ss
  simp -implicitDefEqProofs (maxSteps := 1000000) [Tryz.f9, Code.key, f, hl, hl', u1, ss]
 | none =>
  have hx := readSm_wf (s := s) (by omega) d
  have sz := readSm_sz he
  have hm : maySm (readSm s d).1 d = true := kitSm_wr.mayOf kitSm_ok he
  rw [he] at u1
  generalize (readSm s d).1 = x at *
  have hle := writeSm_le hx (by omega)
  have bk : readSm (writeSm x) d = (x, none) := kitSm_wr.read kitSm_ok hm hx (by omega)
  have m1 := fun q h => cmarSm_ok hx (by omega) hd1 hd q h
  have ma := fun q h => cmaySm_ok hx (by omega) hd1 hd q h
  have ss := fun q h => csameSm_ok (a := x) (b := x) hx q h
  have u2 := fun q h => cunmSm_ok (s := writeSm x) (by omega) hd q h
  rw [bk] at u2
  rw [hm] at m1 ma
  clear hle bk
  generalize writeSm x = w at *
  simp only [decide_true] at ss
  simp only [marE, if_true, encO_none, encSumm] at m1 ma ss u1 u2
  simp -implicitDefEqProofs (maxSteps := 1000000) [Tryz.f9, Code.key, f, hl, hl', u1, u2, m1, ma, ss]
end Go.Ai.T

namespace Go.Proofs.YtgionjiabklccaaGreatDoor
open Go.ChangeShapes Go.WideShapes Go.RowKit
set_option maxRecDepth 100000
theorem law9 (xs : List Go.Ai.A) (h : Go.Ai.ArgsT Go.Ai.T.E.P Tryz.f9.params.toList xs) : ∃ h', Go.Ai.callW Go.Ai.T.E [] 9 xs (fun _ => none) = some (.bool true, h') := by
 have hp : Tryz.f9.params.toList = [9, 3] := by kernel_rfl
 rw [hp] at h
 cases h with
 | cons h0 h =>
  cases h with
  | cons h1 h =>
   cases h
   obtain ⟨x0, rfl, hx0⟩ := argS h0
   obtain ⟨x1, rfl, hx1, hy1⟩ := argI h1
   exact Go.Ai.T.lawSummTwice hx0 hx1 hy1
theorem lifted9 (os : Os) (started : os.Started) (H : Type) (enc : TypeId × Value → H) :
  ReturnsInHanded {} Tryz.checked os 9 .any (fun w args => (Rows.summTwiceSpec.pre enc Tryz.prog Tryz.f9 [] false w args ∧ laidMetH Tryz.prog laidList w) ∧ sizedMet enc Tryz.prog Tryz.f9 (OpenSpec.ofChange Rows.summTwiceSpec) false w args)
   (Rows.summTwiceSpec.post enc Tryz.prog Tryz.f9 false true false false) := by
 refine returnsInHanded_of_change_and (C := Tryz.checked) (X := fun w _ => laidMetH Tryz.prog laidList w) (fun _ _ _ hh h => h.of_heap hh) Tryz.own started (by kernel_rfl) Tryz.func9
  (ChangeSpec.witness_at (enc := enc) (C := Tryz.checked) (os := os) (X := fun w _ => laidMetH Tryz.prog laidList w) false (laidWorld os)
   #[.string ⟨#[]⟩, .int .i64 0] 8 rfl (by kernel_rfl) (by kernel_rfl) (by kernel_rfl) (by kernel_rfl) (by kernel_rfl) (laidWorld_met os _)) ?_
 intro W base args ds gs before hval hW _ _ hL _
 exact Go.Ai.law_contract (E := Go.Ai.T.E) (ts := [3, 4, 9, 23, 24, 25, 26, 28, 52, 57, 59, 61]) (tb := 4) (fn := Tryz.f9) plain_ok laidOut (by kernel_rfl) (by kernel_rfl) Tryz.underlying4 rfl
  (by
   intro ds hds
   have hp : Tryz.f9.params.size = 2 := by kernel_rfl
   rw [hp] at hds
   match ds, hds with
   | [d0, d1], _ => rfl) law9 (Go.Ai.T.envS_ok (handle_of_laid hL)) hval hW
theorem holds9 : Rows.SummTwiceSaid :=
 OpenClaim.holds_of_wide 9 Tryz.f9 rfl rfl rfl rfl rfl rfl rfl ⟨rfl, rfl, rfl, rfl, rfl⟩ rfl rfl rfl rfl rfl (by kernel_rfl) Tryz.func9 (by kernel_rfl)
  (of_decide_eq_true (by kernel_rfl)) (by unfold Func.isWrapper; rw [if_neg (of_decide_eq_false (by kernel_rfl))]; exact ⟨rfl, rfl⟩)
  (fun os started H enc _ => lifted9 os started H enc)
theorem summTwice_holds : Rows.SummTwiceCardSaid :=
 Claim7.holds_tied_plain_at .later [] [.handle] true (true, "d249bb353b0ad4876e1e511082de94de7d0f42723eb5e98361d7bcae220c76ed") true
  holds9 (fun _ h => by cases h) (by kernel_rfl) (fun _ h => by cases h) summTwice_row_tie rfl ⟨rfl, rfl⟩ (by kernel_rfl) rfl
  (fun f fn hf hfn => by
   obtain rfl : f = 9 := Option.some.inj ((show Tryz.prog.funcNamed "hygrometer/hyglaw15.SummTwice" = some 9 by kernel_rfl).symm.trans hf) |>.symm
   obtain rfl : fn = Tryz.f9 := (Option.some.inj (Tryz.func9.symm.trans hfn)).symm
   have hall : (Tryz.f9.params.toList.all fun t => !(Tryz.prog.wantsStandIn t)) = true := by kernel_rfl
   exact ⟨by kernel_rfl, fun j t ht => by
    have hm : t ∈ Tryz.f9.params.toList := by
     rw [← Array.getElem?_toList] at ht
     exact List.mem_of_getElem? ht
    have := List.all_eq_true.1 hall t hm
    simp only [Bool.not_eq_true'] at this
    exact this⟩)
  (by kernel_rfl)
end Go.Proofs.YtgionjiabklccaaGreatDoor

