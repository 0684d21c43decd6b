/- Part KR of the proof that a law of this program answers yes at every input: no conditions beyond the given statement. -/
import Derived.Test.YtceklkdnejcanaaGreatDoorKE
import Derived.Test.YtceklkdnejcanaaGreatDoorKQ
import Derived.Test.YtceklkdnejcanaaGreatDoorKJ
import Derived.Test.YtceklkdnejcanaaGreatDoorKT
set_option linter.unusedSimpArgs false
set_option linter.unusedVariables false
set_option linter.all false
namespace Go.Ai.T
open Go Go.Proofs
set_option maxRecDepth 100000
set_option maxHeartbeats 4000000
open Classical in
theorem lawResourceReads {s : List UInt8} (hs : s.length ≤ maxStr) {d : Int} (hd1 : -9223372036854775808 ≤ d) (hd : d ≤ 9223372036854775807) :
  ∃ h', callW E [] 9 [.str s, .int .i64 d] (fun _ => none) = some (.bool true, h') := by
 have f := fun q h => first10_ok q h
 rw [eq_9]
 by_cases hl : (6000 : Int) < s.length
 ·have hl' : 6000 < s.length := by omega
  simp -implicitDefEqProofs (maxSteps := 1000000) [Tryz.f9, Code.key, f, hl, hl']
 have hl' : ¬ 6000 < s.length := by omega
 have u1 := fun q h => cunmRs_ok (s := s) (by omega) hd q h
 have r1 := fun q h => crreadRs_ok (s := s) (by omega) hd q h
 have w1 := readRs_wf (s := s) (by omega) d
 have x1 := refRs_eq s d
 have a1 : (refRs s d).getD res0 = (readRs s d).1 := by
  rw [x1]; unfold okO
  cases he : (readRs s d).2 with
  | none => rfl
  | some e => exact (kitRs_ok.read_bad s d e he).symm
 have i1 : (refRs s d).isSome = (readRs s d).2.isNone := by rw [x1]; unfold okO; cases (readRs s d).2 <;> rfl
 rw [a1, i1] at r1
 have sv := fun q h => crsameRs_ok (a := (readRs s d).1) (b := (readRs s d).1) w1 q h
 simp only [decide_true] at sv
 have fv := readRs_fine s d
 clear x1 a1 i1 w1
 generalize (readRs s d).1 = x at *
 generalize (readRs s d).2 = e1 at *
 simp only [encRes] at u1 r1 sv
 cases e1 with
 | none =>
  simp only [encO_none, Option.isNone_none] at u1 r1
  simp -implicitDefEqProofs (maxSteps := 1000000) [Tryz.f9, Code.key, f, hl, hl', u1, r1, sv]
 | some y =>
  have wv := fun q h => wrong_ok (fv y rfl) q h
  obtain ⟨t, a, hy⟩ := encE_iface y
  simp only [encO_some, Option.isNone_some, hy] at u1 r1 wv
  simp -implicitDefEqProofs (maxSteps := 1000000) [Tryz.f9, Code.key, f, hl, hl', u1, r1, sv, wv]
end Go.Ai.T

namespace Go.Proofs.YtceklkdnejcanaaGreatDoor
open Go.ChangeShapes Go.WideShapes Go.RowKit
set_option maxRecDepth 100000
theorem law9 (xs : List Go.Ai.A) (h : Go.Ai.ArgsT Go.Ai.T.E.P Tryz.f9.params.toList xs) : ∃ h', Go.Ai.callW Go.Ai.T.E [] 9 xs (fun _ => none) = some (.bool true, h') := by
 have hp : Tryz.f9.params.toList = [9, 3] := by kernel_rfl
 rw [hp] at h
 cases h with
 | cons h0 h =>
  cases h with
  | cons h1 h =>
   cases h
   obtain ⟨x0, rfl, hx0⟩ := argS h0
   obtain ⟨x1, rfl, hx1, hy1⟩ := argI h1
   exact Go.Ai.T.lawResourceReads hx0 hx1 hy1
theorem lifted9 (os : Os) (started : os.Started) (H : Type) (enc : TypeId × Value → H) :
  ReturnsInHanded {} Tryz.checked os 9 .any (fun w args => (Rows.resourceReadsSpec.pre enc Tryz.prog Tryz.f9 [] false w args ∧ laidMetH Tryz.prog laidList w) ∧ sizedMet enc Tryz.prog Tryz.f9 (OpenSpec.ofChange Rows.resourceReadsSpec) false w args)
   (Rows.resourceReadsSpec.post enc Tryz.prog Tryz.f9 false true false false) := by
 refine returnsInHanded_of_change_and (C := Tryz.checked) (X := fun w _ => laidMetH Tryz.prog laidList w) (fun _ _ _ hh h => h.of_heap hh) Tryz.own started (by kernel_rfl) Tryz.func9
  (ChangeSpec.witness_at (enc := enc) (C := Tryz.checked) (os := os) (X := fun w _ => laidMetH Tryz.prog laidList w) false (laidWorld os)
   #[.string ⟨#[]⟩, .int .i64 0] 8 rfl (by kernel_rfl) (by kernel_rfl) (by kernel_rfl) (by kernel_rfl) (by kernel_rfl) (laidWorld_met os _)) ?_
 intro W base args ds gs before hval hW _ _ hL _
 exact Go.Ai.law_contract (E := Go.Ai.T.E) (ts := [3, 4, 9, 22, 23, 25, 39, 52, 62, 64, 66]) (tb := 4) (fn := Tryz.f9) plain_ok laidOut (by kernel_rfl) (by kernel_rfl) Tryz.underlying4 rfl
  (by
   intro ds hds
   have hp : Tryz.f9.params.size = 2 := by kernel_rfl
   rw [hp] at hds
   match ds, hds with
   | [d0, d1], _ => rfl) law9 (Go.Ai.T.envS_ok (handle_of_laid hL)) hval hW
theorem holds9 : Rows.ResourceReadsSaid :=
 OpenClaim.holds_of_wide 9 Tryz.f9 rfl rfl rfl rfl rfl rfl rfl ⟨rfl, rfl, rfl, rfl, rfl⟩ rfl rfl rfl rfl rfl (by kernel_rfl) Tryz.func9 (by kernel_rfl)
  (of_decide_eq_true (by kernel_rfl)) (by unfold Func.isWrapper; rw [if_neg (of_decide_eq_false (by kernel_rfl))]; exact ⟨rfl, rfl⟩)
  (fun os started H enc _ => lifted9 os started H enc)
theorem resourceReads_holds : Rows.ResourceReadsCardSaid :=
 Claim7.holds_tied_plain_at .later [] [.handle] true (true, "8675cd15e58885dd82e0d1c8ab52706ce57f806b47bf0ae5218e72f943d68231") true
  holds9 (fun _ h => by cases h) (by kernel_rfl) (fun _ h => by cases h) resourceReads_row_tie rfl ⟨rfl, rfl⟩ (by kernel_rfl) rfl
  (fun f fn hf hfn => by
   obtain rfl : f = 9 := Option.some.inj ((show Tryz.prog.funcNamed "hygrometer/hyglaw10.ResourceReads" = some 9 by kernel_rfl).symm.trans hf) |>.symm
   obtain rfl : fn = Tryz.f9 := (Option.some.inj (Tryz.func9.symm.trans hfn)).symm
   have hall : (Tryz.f9.params.toList.all fun t => !(Tryz.prog.wantsStandIn t)) = true := by kernel_rfl
   exact ⟨by kernel_rfl, fun j t ht => by
    have hm : t ∈ Tryz.f9.params.toList := by
     rw [← Array.getElem?_toList] at ht
     exact List.mem_of_getElem? ht
    have := List.all_eq_true.1 hall t hm
    simp only [Bool.not_eq_true'] at this
    exact this⟩)
  (by kernel_rfl)
end Go.Proofs.YtceklkdnejcanaaGreatDoor

