/- Part KVC of the proof that a law of this program answers yes at every input: no conditions beyond the given statement. -/
import Derived.Test.YtbpllbpgaiphaaaGreatDoorCards
import Derived.Test.YtbpllbpgaiphaaaGreatDoorKU
set_option linter.unusedSimpArgs false
set_option linter.unusedVariables false
set_option linter.all false
/- A closed fact of the row of ScriptFine. -/
namespace Go.Proofs.YtbpllbpgaiphaaaGreatDoor
open Go.ChangeShapes Go.WideShapes Go.RowKit
set_option maxRecDepth 100000
theorem fact5 : Rows.scriptFineRow.wfByText (OpenSpec.ofChange Rows.scriptFineSpec) = true := by kernel_rfl
end Go.Proofs.YtbpllbpgaiphaaaGreatDoor

/- A closed fact of the row of ScriptFine. -/
namespace Go.Proofs.YtbpllbpgaiphaaaGreatDoor
open Go.ChangeShapes Go.WideShapes Go.RowKit
set_option maxRecDepth 100000
theorem fact6 : Tryz.pinned.checked.prog.mainIs = some (true, "0df34d0df3c3d45c02eac3e5b40ab9d58ba176100cd2773de7d1697ebc8d4bc1".toList) := by kernel_rfl
theorem fact7 : true = Tryz.pinned.checked.prog.looks [] := by kernel_rfl
end Go.Proofs.YtbpllbpgaiphaaaGreatDoor

/- A closed fact of the row of ScriptFine. -/
namespace Go.Proofs.YtbpllbpgaiphaaaGreatDoor
open Go.ChangeShapes Go.WideShapes Go.RowKit
set_option maxRecDepth 100000

theorem fact9 : (Tryz.f3.params.toList.all fun t => !(Tryz.pinned.checked.prog.wantsStandIn t)) = true := by kernel_rfl
end Go.Proofs.YtbpllbpgaiphaaaGreatDoor

