/- Part KY of the proof that a law of this program answers yes at every input: no conditions beyond the given statement. -/
import Derived.Test.YtceklkdnejcanaaGreatDoorKE
import Derived.Test.YtceklkdnejcanaaGreatDoorKQ
import Derived.Test.YtceklkdnejcanaaGreatDoorKL
import Derived.Test.YtceklkdnejcanaaGreatDoorKT
set_option linter.unusedSimpArgs false
set_option linter.unusedVariables false
set_option linter.all false
namespace Go.Ai.T
open Go Go.Proofs
set_option maxRecDepth 100000
set_option maxHeartbeats 4000000
open Classical in
theorem lawResourceWrites {x : ResM} (hx : x.wf) {d : Int} (hd1 : -9223372036854775808 ≤ d) (hd : d ≤ 9223372036854775807) :
  ∃ h', callW E [] 8 [.agg (encRes x), .int .i64 d] (fun _ => none) = some (.bool true, h') := by
 have f := fun q h => first10_ok q h
 have rx := fun q h => croomRs_ok hx (r := 12000) (by omega) (by omega) q h
 rw [eq_8]
 by_cases cx : roomRs x 12000 < 0
 ·simp only [encRes] at rx ⊢
  simp -implicitDefEqProofs (maxSteps := 1000000) [Tryz.f8, Code.key, f, rx, cx]
 have sz := roomRs_sz (x := x) (by omega)
 have hle := writeRs_le hx (by omega)
 have m1 := fun q h => crmayRs_ok hx (by omega) hd1 hd q h
 have m2 := fun q h => cmarRs_ok hx (by omega) hd1 hd q h
 have m3 := fun q h => cmayRs_ok hx (by omega) hd1 hd q h
 have m4 := fun q h => csizeRs_ok hx (by omega) q h
 cases hm : mayRs x d with
 | false =>
  have g4 := fun q h => code_ok (.code 8) q h
  rw [hm] at m1 m2 m3
  simp only [marE, Bool.false_eq_true, if_false, encO_some, encE_code, Err.codeOf, encRes] at rx m1 m2 m3 g4 ⊢
  simp -implicitDefEqProofs (maxSteps := 1000000) [Tryz.f8, Code.key, f, rx, cx, m1, m2, m3, g4]
 | true =>
  have en := mayRs_enough hm (d' := 1073741824) (by omega)
  have m5 := fun q h => crwriteRs_ok hx (by omega) hm q h
  rw [hm] at m1 m2 m3
  rw [en] at m4
  generalize writeRs x = w at *
  simp only [marE, if_true, encO_none, encRes] at rx m1 m2 m3 m4 m5 ⊢
  simp -implicitDefEqProofs (maxSteps := 1000000) [Tryz.f8, Code.key, f, rx, cx, m1, m2, m3, m4, m5]
end Go.Ai.T

namespace Go.Proofs.YtceklkdnejcanaaGreatDoor
open Go.ChangeShapes Go.WideShapes Go.RowKit
set_option maxRecDepth 100000
theorem law8 (xs : List Go.Ai.A) (h : Go.Ai.ArgsT Go.Ai.T.E.P Tryz.f8.params.toList xs) : ∃ h', Go.Ai.callW Go.Ai.T.E [] 8 xs (fun _ => none) = some (.bool true, h') := by
 have hp : Tryz.f8.params.toList = [25, 3] := by kernel_rfl
 rw [hp] at h
 cases h with
 | cons h0 h =>
  cases h with
  | cons h1 h =>
   cases h
   obtain ⟨x0, rfl, hx0⟩ := argRes h0
   obtain ⟨x1, rfl, hx1, hy1⟩ := argI h1
   exact Go.Ai.T.lawResourceWrites hx0 hx1 hy1
theorem lifted8 (os : Os) (started : os.Started) (H : Type) (enc : TypeId × Value → H) :
  ReturnsInHanded {} Tryz.checked os 8 .any (fun w args => (Rows.resourceWritesSpec.pre enc Tryz.prog Tryz.f8 [] false w args ∧ laidMetH Tryz.prog laidList w) ∧ sizedMet enc Tryz.prog Tryz.f8 (OpenSpec.ofChange Rows.resourceWritesSpec) false w args)
   (Rows.resourceWritesSpec.post enc Tryz.prog Tryz.f8 false true false false) := by
 refine returnsInHanded_of_change_and (C := Tryz.checked) (X := fun w _ => laidMetH Tryz.prog laidList w) (fun _ _ _ hh h => h.of_heap hh) Tryz.own started (by kernel_rfl) Tryz.func8
  (ChangeSpec.witness_at (enc := enc) (C := Tryz.checked) (os := os) (X := fun w _ => laidMetH Tryz.prog laidList w) false (laidWorld os)
   #[.agg #[.slice none 0 0, .int .u32 0, .string ⟨#[]⟩], .int .i64 0] 8 rfl (by kernel_rfl) (by kernel_rfl) (by kernel_rfl) (by kernel_rfl) (by kernel_rfl) (laidWorld_met os _)) ?_
 intro W base args ds gs before hval hW _ _ hL _
 exact Go.Ai.law_contract (E := Go.Ai.T.E) (ts := [3, 4, 9, 22, 23, 25, 39, 52, 62, 64, 66]) (tb := 4) (fn := Tryz.f8) plain_ok laidOut (by kernel_rfl) (by kernel_rfl) Tryz.underlying4 rfl
  (by
   intro ds hds
   have hp : Tryz.f8.params.size = 2 := by kernel_rfl
   rw [hp] at hds
   match ds, hds with
   | [d0, d1], _ => rfl) law8 (Go.Ai.T.envS_ok (handle_of_laid hL)) hval hW
theorem holds8 : Rows.ResourceWritesSaid :=
 OpenClaim.holds_of_wide 8 Tryz.f8 rfl rfl rfl rfl rfl rfl rfl ⟨rfl, rfl, rfl, rfl, rfl⟩ rfl rfl rfl rfl rfl (by kernel_rfl) Tryz.func8 (by kernel_rfl)
  (of_decide_eq_true (by kernel_rfl)) (by unfold Func.isWrapper; rw [if_neg (of_decide_eq_false (by kernel_rfl))]; exact ⟨rfl, rfl⟩)
  (fun os started H enc _ => lifted8 os started H enc)
theorem resourceWrites_holds : Rows.ResourceWritesCardSaid :=
 Claim7.holds_tied_plain_at .later [] [.handle] true (true, "8675cd15e58885dd82e0d1c8ab52706ce57f806b47bf0ae5218e72f943d68231") true
  holds8 (fun _ h => by cases h) (by kernel_rfl) (fun _ h => by cases h) resourceWrites_row_tie rfl ⟨rfl, rfl⟩ (by kernel_rfl) rfl
  (fun f fn hf hfn => by
   obtain rfl : f = 8 := Option.some.inj ((show Tryz.prog.funcNamed "hygrometer/hyglaw10.ResourceWrites" = some 8 by kernel_rfl).symm.trans hf) |>.symm
   obtain rfl : fn = Tryz.f8 := (Option.some.inj (Tryz.func8.symm.trans hfn)).symm
   have hall : (Tryz.f8.params.toList.all fun t => !(Tryz.prog.wantsStandIn t)) = true := by kernel_rfl
   exact ⟨by kernel_rfl, fun j t ht => by
    have hm : t ∈ Tryz.f8.params.toList := by
     rw [← Array.getElem?_toList] at ht
     exact List.mem_of_getElem? ht
    have := List.all_eq_true.1 hall t hm
    simp only [Bool.not_eq_true'] at this
    exact this⟩)
  (by kernel_rfl)
end Go.Proofs.YtceklkdnejcanaaGreatDoor

