/- Part KW of the proof that a law of this program answers yes at every input: no conditions beyond the given statement. -/
import Derived.Test.YtbpllbpgaiphaaaGreatDoorKU
import Derived.Test.YtbpllbpgaiphaaaGreatDoorKF
set_option linter.unusedSimpArgs false
set_option linter.unusedVariables false
set_option linter.all false
/- ScriptFine: the law in the evaluator, lifted. -/
namespace Go.Proofs.YtbpllbpgaiphaaaGreatDoor
open Go.ChangeShapes Go.WideShapes Go.RowKit
set_option maxRecDepth 100000
theorem law3 (xs : List Go.Ai.A) (h : Go.Ai.ArgsT Go.Ai.T.E.P Tryz.f3.params.toList xs) : ∃ h', Go.Ai.callW Go.Ai.T.E [] 3 xs (fun _ => none) = some (.bool true, h') := by
  have hp : Tryz.f3.params.toList = [3, 3, 3, 3] := by kernel_rfl
  rw [hp] at h
  cases h with
  | cons h0 h =>
    cases h with
    | cons h1 h =>
      cases h with
      | cons h2 h =>
        cases h with
        | cons h3 h =>
          cases h
          obtain ⟨x0, rfl, hx0, hy0⟩ := argI h0
          obtain ⟨x1, rfl, hx1, hy1⟩ := argI h1
          obtain ⟨x2, rfl, hx2, hy2⟩ := argI h2
          obtain ⟨x3, rfl, hx3, hy3⟩ := argI h3
          exact Go.Ai.T.lawScriptFine hx0 hy0 hx1 hy1 hx2 hy2 hx3 hy3
theorem lifted3 (os : Os) (started : os.Started) (H : Type) (enc : TypeId × Value → H) :
    ReturnsInHanded {} Tryz.checked os 3 .any (fun w args => (Rows.scriptFineSpec.pre enc Tryz.prog Tryz.f3 [] false w args ∧ laidMetH Tryz.prog LL w) ∧ sizedMet enc Tryz.prog Tryz.f3 (OpenSpec.ofChange Rows.scriptFineSpec) false w args)
      (Rows.scriptFineSpec.post enc Tryz.prog Tryz.f3 false true false false) := by
  refine returnsInHanded_of_change_and (C := Tryz.checked) (X := fun w _ => laidMetH Tryz.prog LL w) (fun _ _ _ hh h => h.of_heap hh) Tryz.own started (by kernel_rfl) Tryz.func3
    (ChangeSpec.witness_at (enc := enc) (C := Tryz.checked) (os := os) (X := fun w _ => laidMetH Tryz.prog LL w) false (laidWorld os)
      #[.int .i64 0, .int .i64 0, .int .i64 0, .int .i64 0] 8 rfl (by kernel_rfl) (by kernel_rfl) (by kernel_rfl) (by kernel_rfl) (by kernel_rfl) (laidWorld_met os _)) ?_
  intro W base args ds gs before hval hW _ _ hL _
  exact Go.Ai.law_contract (E := Go.Ai.T.E) (ts := [3, 4]) (tb := 4) (fn := Tryz.f3) plain_ok laidOut (by kernel_rfl) (by kernel_rfl) Tryz.underlying4 rfl
    (by
      intro ds hds
      have hp : Tryz.f3.params.size = 4 := by kernel_rfl
      rw [hp] at hds
      match ds, hds with
      | [d0, d1, d2, d3], _ => rfl) law3 Go.Ai.T.envS_ok hval hW
end Go.Proofs.YtbpllbpgaiphaaaGreatDoor

