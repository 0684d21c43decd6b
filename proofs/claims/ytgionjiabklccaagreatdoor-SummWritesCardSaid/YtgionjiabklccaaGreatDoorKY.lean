/- Part KY of the proof that a law of this program answers yes at every input: no conditions beyond the given statement. -/
import Derived.Test.YtgionjiabklccaaGreatDoorKE
import Derived.Test.YtgionjiabklccaaGreatDoorKQ
import Derived.Test.YtgionjiabklccaaGreatDoorKL
import Derived.Test.YtgionjiabklccaaGreatDoorKT
set_option linter.unusedSimpArgs false
set_option linter.unusedVariables false
set_option linter.all false
namespace Go.Ai.T
open Go Go.Proofs
set_option maxRecDepth 100000
set_option maxHeartbeats 4000000
open Classical in
theorem lawSummWrites {x : SummM} (hx : x.wf) {d : Int} (hd1 : -9223372036854775808 ≤ d) (hd : d ≤ 9223372036854775807) :
  ∃ h', callW E [] 6 [.agg (encSumm x), .int .i64 d] (fun _ => none) = some (.bool true, h') := by
 have f := fun q h => first15_ok q h
 have rx := fun q h => croomSm_ok hx (r := 12000) (by omega) (by omega) q h
 rw [eq_6]
 by_cases cx : roomSm x 12000 < 0
 ·simp only [encSumm] at rx ⊢
  simp -implicitDefEqProofs (maxSteps := 1000000) [Tryz.f6, Code.key, f, rx, cx]
 have sz := roomSm_sz (x := x) (by omega)
 have hle := writeSm_le hx (by omega)
 have m1 := fun q h => crmaySm_ok hx (by omega) hd1 hd q h
 have m2 := fun q h => cmarSm_ok hx (by omega) hd1 hd q h
 have m3 := fun q h => cmaySm_ok hx (by omega) hd1 hd q h
 have m4 := fun q h => csizeSm_ok hx (by omega) q h
 cases hm : maySm x d with
 | false =>
  have g4 := fun q h => code_ok (.code 8) q h
  rw [hm] at m1 m2 m3
  simp only [marE, Bool.false_eq_true, if_false, encO_some, encE_code, Err.codeOf, encSumm] at rx m1 m2 m3 g4 ⊢
  simp -implicitDefEqProofs (maxSteps := 1000000) [Tryz.f6, Code.key, f, rx, cx, m1, m2, m3, g4]
 | true =>
  have en := maySm_enough hm (d' := 1073741824) (by omega)
  have m5 := fun q h => crwriteSm_ok hx (by omega) hm q h
  rw [hm] at m1 m2 m3
  rw [en] at m4
  generalize writeSm x = w at *
  simp only [marE, if_true, encO_none, encSumm] at rx m1 m2 m3 m4 m5 ⊢
  simp -implicitDefEqProofs (maxSteps := 1000000) [Tryz.f6, Code.key, f, rx, cx, m1, m2, m3, m4, m5]
end Go.Ai.T

namespace Go.Proofs.YtgionjiabklccaaGreatDoor
open Go.ChangeShapes Go.WideShapes Go.RowKit
set_option maxRecDepth 100000
theorem law6 (xs : List Go.Ai.A) (h : Go.Ai.ArgsT Go.Ai.T.E.P Tryz.f6.params.toList xs) : ∃ h', Go.Ai.callW Go.Ai.T.E [] 6 xs (fun _ => none) = some (.bool true, h') := by
 have hp : Tryz.f6.params.toList = [28, 3] := by kernel_rfl
 rw [hp] at h
 cases h with
 | cons h0 h =>
  cases h with
  | cons h1 h =>
   cases h
   obtain ⟨x0, rfl, hx0⟩ := argSumm h0
   obtain ⟨x1, rfl, hx1, hy1⟩ := argI h1
   exact Go.Ai.T.lawSummWrites hx0 hx1 hy1
theorem lifted6 (os : Os) (started : os.Started) (H : Type) (enc : TypeId × Value → H) :
  ReturnsInHanded {} Tryz.checked os 6 .any (fun w args => (Rows.summWritesSpec.pre enc Tryz.prog Tryz.f6 [] false w args ∧ laidMetH Tryz.prog laidList w) ∧ sizedMet enc Tryz.prog Tryz.f6 (OpenSpec.ofChange Rows.summWritesSpec) false w args)
   (Rows.summWritesSpec.post enc Tryz.prog Tryz.f6 false true false false) := by
 refine returnsInHanded_of_change_and (C := Tryz.checked) (X := fun w _ => laidMetH Tryz.prog laidList w) (fun _ _ _ hh h => h.of_heap hh) Tryz.own started (by kernel_rfl) Tryz.func6
  (ChangeSpec.witness_at (enc := enc) (C := Tryz.checked) (os := os) (X := fun w _ => laidMetH Tryz.prog laidList w) false (laidWorld os)
   #[.agg #[.slice none 0 0, .int .u64 0, .int .u64 0, .int .u64 0, .int .u64 0, .slice none 0 0, .int .u32 0, .string ⟨#[]⟩], .int .i64 0] 8 rfl (by kernel_rfl) (by kernel_rfl) (by kernel_rfl) (by kernel_rfl) (by kernel_rfl) (laidWorld_met os _)) ?_
 intro W base args ds gs before hval hW _ _ hL _
 exact Go.Ai.law_contract (E := Go.Ai.T.E) (ts := [3, 4, 9, 23, 24, 25, 26, 28, 52, 57, 59, 61]) (tb := 4) (fn := Tryz.f6) plain_ok laidOut (by kernel_rfl) (by kernel_rfl) Tryz.underlying4 rfl
  (by
   intro ds hds
   have hp : Tryz.f6.params.size = 2 := by kernel_rfl
   rw [hp] at hds
   match ds, hds with
   | [d0, d1], _ => rfl) law6 (Go.Ai.T.envS_ok (handle_of_laid hL)) hval hW
theorem holds6 : Rows.SummWritesSaid :=
 OpenClaim.holds_of_wide 6 Tryz.f6 rfl rfl rfl rfl rfl rfl rfl ⟨rfl, rfl, rfl, rfl, rfl⟩ rfl rfl rfl rfl rfl (by kernel_rfl) Tryz.func6 (by kernel_rfl)
  (of_decide_eq_true (by kernel_rfl)) (by unfold Func.isWrapper; rw [if_neg (of_decide_eq_false (by kernel_rfl))]; exact ⟨rfl, rfl⟩)
  (fun os started H enc _ => lifted6 os started H enc)
theorem summWrites_holds : Rows.SummWritesCardSaid :=
 Claim7.holds_tied_plain_at .later [] [.handle] true (true, "d249bb353b0ad4876e1e511082de94de7d0f42723eb5e98361d7bcae220c76ed") true
  holds6 (fun _ h => by cases h) (by kernel_rfl) (fun _ h => by cases h) summWrites_row_tie rfl ⟨rfl, rfl⟩ (by kernel_rfl) rfl
  (fun f fn hf hfn => by
   obtain rfl : f = 6 := Option.some.inj ((show Tryz.prog.funcNamed "hygrometer/hyglaw15.SummWrites" = some 6 by kernel_rfl).symm.trans hf) |>.symm
   obtain rfl : fn = Tryz.f6 := (Option.some.inj (Tryz.func6.symm.trans hfn)).symm
   have hall : (Tryz.f6.params.toList.all fun t => !(Tryz.prog.wantsStandIn t)) = true := by kernel_rfl
   exact ⟨by kernel_rfl, fun j t ht => by
    have hm : t ∈ Tryz.f6.params.toList := by
     rw [← Array.getElem?_toList] at ht
     exact List.mem_of_getElem? ht
    have := List.all_eq_true.1 hall t hm
    simp only [Bool.not_eq_true'] at this
    exact this⟩)
  (by kernel_rfl)
end Go.Proofs.YtgionjiabklccaaGreatDoor

