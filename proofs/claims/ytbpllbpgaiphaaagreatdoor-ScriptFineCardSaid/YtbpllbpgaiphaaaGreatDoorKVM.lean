/- Part KVM of the proof that a law of this program answers yes at every input: no conditions beyond the given statement. -/
import Derived.Test.YtbpllbpgaiphaaaGreatDoorKU
import Derived.Test.YtbpllbpgaiphaaaGreatDoorKVK
import Derived.Test.YtbpllbpgaiphaaaGreatDoorKVL
import Derived.Test.YtbpllbpgaiphaaaGreatDoorKVB
set_option linter.unusedSimpArgs false
set_option linter.unusedVariables false
set_option linter.all false
/- A closed fact of the row of ScriptFine. -/
namespace Go.Proofs.YtbpllbpgaiphaaaGreatDoor
open Go.ChangeShapes Go.WideShapes Go.RowKit
set_option maxRecDepth 100000
theorem fact8 : false = Rows.scriptFineRow.goesBy Tryz.pinned.checked.prog := by
  have hs : Rows.scriptFineRow.start = Start.entering := rfl
  unfold OpenClaim.goesBy Program.goesAt Program.goesFrom
  rw [fact2, hs, Option.any_some]
  unfold Program.goes
  rw [fact8a, fact8b]
  simp
end Go.Proofs.YtbpllbpgaiphaaaGreatDoor

