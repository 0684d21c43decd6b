/- Part KTH of the proof that a law of this program answers yes at every input: no conditions beyond the given statement. -/
import Derived.Test.YtbpllbpgaiphaaaGreatDoorRows
import Derived.LaidByTextLater
import Derived.SevenTiedAt
import Derived.KernelRfl
import Derived.Test.YtbpllbpgaiphaaaGreatDoorKTB
import Derived.Test.YtbpllbpgaiphaaaGreatDoorKTC
import Derived.Test.YtbpllbpgaiphaaaGreatDoorKTD
import Derived.Test.YtbpllbpgaiphaaaGreatDoorKTE
import Derived.Test.YtbpllbpgaiphaaaGreatDoorKTF
import Derived.Test.YtbpllbpgaiphaaaGreatDoorKTG
set_option linter.unusedSimpArgs false
set_option linter.unusedVariables false
set_option linter.all false
/- The tie of the laid variables to the program. -/
namespace Go.Proofs.YtbpllbpgaiphaaaGreatDoor
open Go
theorem tie : Tryz.prog.laidByTextLater LL [.data, .data, .data, .handle] true :=
  Program.laidByTextLater_by_run_h 400 8 tie1 tie2 tie3 tie4 tie5 tie6 tie7 tie8 tie9 tie10
theorem scriptFine_row_tie : Rows.scriptFineRow.laidByTextAt .later Tryz.pinned [.data, .data, .data, .handle] true :=
  OpenClaim.laidByTextAt_later rfl rfl tie noOwnUnsafe
end Go.Proofs.YtbpllbpgaiphaaaGreatDoor

