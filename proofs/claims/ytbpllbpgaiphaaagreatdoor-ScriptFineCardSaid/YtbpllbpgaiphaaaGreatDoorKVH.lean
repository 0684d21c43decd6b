/- Part KVH of the proof that a law of this program answers yes at every input: no conditions beyond the given statement. -/
import Derived.Test.YtbpllbpgaiphaaaGreatDoorKU
set_option linter.unusedSimpArgs false
set_option linter.unusedVariables false
set_option linter.all false
/- A closed fact of the row of ScriptFine. -/
namespace Go.Proofs.YtbpllbpgaiphaaaGreatDoor
open Go.ChangeShapes Go.WideShapes Go.RowKit
set_option maxRecDepth 100000
theorem fact1c : (Rows.scriptFineRow.recurses == Tryz.pinned.checked.prog.recurses 3) = true := by kernel_rfl
end Go.Proofs.YtbpllbpgaiphaaaGreatDoor

