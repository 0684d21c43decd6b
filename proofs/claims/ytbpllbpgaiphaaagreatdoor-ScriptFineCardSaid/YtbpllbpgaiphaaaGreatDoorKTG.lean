/- Part KTG of the proof that a law of this program answers yes at every input: no conditions beyond the given statement. -/
import Derived.Test.YtbpllbpgaiphaaaGreatDoorRows
import Derived.LaidByTextLater
import Derived.SevenTiedAt
import Derived.KernelRfl
import Derived.Test.YtbpllbpgaiphaaaGreatDoorKTA
set_option linter.unusedSimpArgs false
set_option linter.unusedVariables false
set_option linter.all false
/- No unsafe words. -/
namespace Go.Proofs.YtbpllbpgaiphaaaGreatDoor
open Go
theorem noOwnUnsafe : Tryz.pinned.checked.prog.headLifts.contains "ownunsafe" = false := by kernel_rfl
end Go.Proofs.YtbpllbpgaiphaaaGreatDoor

