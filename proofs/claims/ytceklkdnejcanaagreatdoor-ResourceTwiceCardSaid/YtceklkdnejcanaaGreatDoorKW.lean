/- Part KW of the proof that a law of this program answers yes at every input: no conditions beyond the given statement. -/
import Derived.Test.YtceklkdnejcanaaGreatDoorKE
import Derived.Test.YtceklkdnejcanaaGreatDoorKQ
import Derived.Test.YtceklkdnejcanaaGreatDoorKT
set_option linter.unusedSimpArgs false
set_option linter.unusedVariables false
set_option linter.all false
namespace Go.Ai.T
open Go Go.Proofs
set_option maxRecDepth 100000
set_option maxHeartbeats 4000000
open Classical in
theorem lawResourceTwice {s : List UInt8} (hs : s.length ≤ maxStr) {d : Int} (hd1 : -9223372036854775808 ≤ d) (hd : d ≤ 9223372036854775807) :
  ∃ h', callW E [] 6 [.str s, .int .i64 d] (fun _ => none) = some (.bool true, h') := by
 have f := fun q h => first10_ok q h
 rw [eq_6]
 by_cases hl : (6000 : Int) < s.length
 ·have hl' : 6000 < s.length := by omega
  simp -implicitDefEqProofs (maxSteps := 1000000) [Tryz.f6, Code.key, f, hl, hl']
 have hl' : ¬ 6000 < s.length := by omega
 have u1 := fun q h => cunmRs_ok (s := s) (by omega) hd q h
 cases he : (readRs s d).2 with
 | some y =>
  obtain ⟨t, a, hy⟩ := encE_iface y
  have hz : (readRs s d).1 = res0 := kitRs_ok.read_bad s d y he
  have ss := fun q h => csameRs_ok (a := res0) (b := res0) zero_wfRs q h
  rw [he, hz] at u1
  simp only [decide_true] at ss
  simp only [encO_some, hy, encRes, res0, List.map_nil, nat0] at u1 ss
  simp -implicitDefEqProofs (maxSteps := 1000000) [Tryz.f6, Code.key, f, hl, hl', u1, ss]
 | none =>
  have hx := readRs_wf (s := s) (by omega) d
  have sz := readRs_sz he
  have hm : mayRs (readRs s d).1 d = true := kitRs_wr.mayOf kitRs_ok he
  rw [he] at u1
  generalize (readRs s d).1 = x at *
  have hle := writeRs_le hx (by omega)
  have bk : readRs (writeRs x) d = (x, none) := kitRs_wr.read kitRs_ok hm hx (by omega)
  have m1 := fun q h => cmarRs_ok hx (by omega) hd1 hd q h
  have ma := fun q h => cmayRs_ok hx (by omega) hd1 hd q h
  have ss := fun q h => csameRs_ok (a := x) (b := x) hx q h
  have u2 := fun q h => cunmRs_ok (s := writeRs x) (by omega) hd q h
  rw [bk] at u2
  rw [hm] at m1 ma
  clear hle bk
  generalize writeRs x = w at *
  simp only [decide_true] at ss
  simp only [marE, if_true, encO_none, encRes] at m1 ma ss u1 u2
  simp -implicitDefEqProofs (maxSteps := 1000000) [Tryz.f6, Code.key, f, hl, hl', u1, u2, m1, ma, ss]
end Go.Ai.T

namespace Go.Proofs.YtceklkdnejcanaaGreatDoor
open Go.ChangeShapes Go.WideShapes Go.RowKit
set_option maxRecDepth 100000
theorem law6 (xs : List Go.Ai.A) (h : Go.Ai.ArgsT Go.Ai.T.E.P Tryz.f6.params.toList xs) : ∃ h', Go.Ai.callW Go.Ai.T.E [] 6 xs (fun _ => none) = some (.bool true, h') := by
 have hp : Tryz.f6.params.toList = [9, 3] := by kernel_rfl
 rw [hp] at h
 cases h with
 | cons h0 h =>
  cases h with
  | cons h1 h =>
   cases h
   obtain ⟨x0, rfl, hx0⟩ := argS h0
   obtain ⟨x1, rfl, hx1, hy1⟩ := argI h1
   exact Go.Ai.T.lawResourceTwice hx0 hx1 hy1
theorem lifted6 (os : Os) (started : os.Started) (H : Type) (enc : TypeId × Value → H) :
  ReturnsInHanded {} Tryz.checked os 6 .any (fun w args => (Rows.resourceTwiceSpec.pre enc Tryz.prog Tryz.f6 [] false w args ∧ laidMetH Tryz.prog laidList w) ∧ sizedMet enc Tryz.prog Tryz.f6 (OpenSpec.ofChange Rows.resourceTwiceSpec) false w args)
   (Rows.resourceTwiceSpec.post enc Tryz.prog Tryz.f6 false true false false) := by
 refine returnsInHanded_of_change_and (C := Tryz.checked) (X := fun w _ => laidMetH Tryz.prog laidList w) (fun _ _ _ hh h => h.of_heap hh) Tryz.own started (by kernel_rfl) Tryz.func6
  (ChangeSpec.witness_at (enc := enc) (C := Tryz.checked) (os := os) (X := fun w _ => laidMetH Tryz.prog laidList w) false (laidWorld os)
   #[.string ⟨#[]⟩, .int .i64 0] 8 rfl (by kernel_rfl) (by kernel_rfl) (by kernel_rfl) (by kernel_rfl) (by kernel_rfl) (laidWorld_met os _)) ?_
 intro W base args ds gs before hval hW _ _ hL _
 exact Go.Ai.law_contract (E := Go.Ai.T.E) (ts := [3, 4, 9, 22, 23, 25, 39, 52, 62, 64, 66]) (tb := 4) (fn := Tryz.f6) plain_ok laidOut (by kernel_rfl) (by kernel_rfl) Tryz.underlying4 rfl
  (by
   intro ds hds
   have hp : Tryz.f6.params.size = 2 := by kernel_rfl
   rw [hp] at hds
   match ds, hds with
   | [d0, d1], _ => rfl) law6 (Go.Ai.T.envS_ok (handle_of_laid hL)) hval hW
theorem holds6 : Rows.ResourceTwiceSaid :=
 OpenClaim.holds_of_wide 6 Tryz.f6 rfl rfl rfl rfl rfl rfl rfl ⟨rfl, rfl, rfl, rfl, rfl⟩ rfl rfl rfl rfl rfl (by kernel_rfl) Tryz.func6 (by kernel_rfl)
  (of_decide_eq_true (by kernel_rfl)) (by unfold Func.isWrapper; rw [if_neg (of_decide_eq_false (by kernel_rfl))]; exact ⟨rfl, rfl⟩)
  (fun os started H enc _ => lifted6 os started H enc)
theorem resourceTwice_holds : Rows.ResourceTwiceCardSaid :=
 Claim7.holds_tied_plain_at .later [] [.handle] true (true, "8675cd15e58885dd82e0d1c8ab52706ce57f806b47bf0ae5218e72f943d68231") true
  holds6 (fun _ h => by cases h) (by kernel_rfl) (fun _ h => by cases h) resourceTwice_row_tie rfl ⟨rfl, rfl⟩ (by kernel_rfl) rfl
  (fun f fn hf hfn => by
   obtain rfl : f = 6 := Option.some.inj ((show Tryz.prog.funcNamed "hygrometer/hyglaw10.ResourceTwice" = some 6 by kernel_rfl).symm.trans hf) |>.symm
   obtain rfl : fn = Tryz.f6 := (Option.some.inj (Tryz.func6.symm.trans hfn)).symm
   have hall : (Tryz.f6.params.toList.all fun t => !(Tryz.prog.wantsStandIn t)) = true := by kernel_rfl
   exact ⟨by kernel_rfl, fun j t ht => by
    have hm : t ∈ Tryz.f6.params.toList := by
     rw [← Array.getElem?_toList] at ht
     exact List.mem_of_getElem? ht
    have := List.all_eq_true.1 hall t hm
    simp only [Bool.not_eq_true'] at this
    exact this⟩)
  (by kernel_rfl)
end Go.Proofs.YtceklkdnejcanaaGreatDoor

