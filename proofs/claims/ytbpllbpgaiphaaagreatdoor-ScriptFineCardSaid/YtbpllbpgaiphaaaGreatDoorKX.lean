/- Part KX of the proof that a law of this program answers yes at every input: no conditions beyond the given statement. -/
import Derived.Test.YtbpllbpgaiphaaaGreatDoorCards
import Derived.Test.YtbpllbpgaiphaaaGreatDoorKW
import Derived.Test.YtbpllbpgaiphaaaGreatDoorKTH
import Derived.Test.YtbpllbpgaiphaaaGreatDoorKVB
import Derived.Test.YtbpllbpgaiphaaaGreatDoorKVC
import Derived.Test.YtbpllbpgaiphaaaGreatDoorKVJ
import Derived.Test.YtbpllbpgaiphaaaGreatDoorKVM
set_option linter.unusedSimpArgs false
set_option linter.unusedVariables false
set_option linter.all false
/- ScriptFine: the card, out of the law in the evaluator. -/
namespace Go.Proofs.YtbpllbpgaiphaaaGreatDoor
open Go.ChangeShapes Go.WideShapes Go.RowKit
set_option maxRecDepth 100000
theorem holds3 : Rows.ScriptFineSaid :=
  OpenClaim.holds_of_wide 3 Tryz.f3 rfl rfl rfl rfl rfl rfl rfl ⟨rfl, rfl, rfl, rfl, rfl⟩ rfl rfl rfl rfl rfl fact2 Tryz.func3 fact1 fact3 fact4
    (fun os started H enc _ => lifted3 os started H enc)
theorem scriptFine_holds : Rows.ScriptFineCardSaid :=
  Claim7.holds_tied_plain_at .later [] [.data, .data, .data, .handle] true (true, "0df34d0df3c3d45c02eac3e5b40ab9d58ba176100cd2773de7d1697ebc8d4bc1") true
    holds3 (fun _ h => by cases h) fact5 (fun _ h => by cases h) scriptFine_row_tie rfl ⟨rfl, rfl⟩ fact6 rfl
    (fun f fn hf hfn => by
      obtain rfl : f = 3 := Option.some.inj (fact2.symm.trans hf) |>.symm
      obtain rfl : fn = Tryz.f3 := (Option.some.inj (Tryz.func3.symm.trans hfn)).symm
      exact ⟨fact7, fun j t ht => by
        have hm : t ∈ Tryz.f3.params.toList := by
          rw [← Array.getElem?_toList] at ht
          exact List.mem_of_getElem? ht
        have := List.all_eq_true.1 fact9 t hm
        simp only [Bool.not_eq_true'] at this
        exact this⟩)
    fact8
end Go.Proofs.YtbpllbpgaiphaaaGreatDoor

