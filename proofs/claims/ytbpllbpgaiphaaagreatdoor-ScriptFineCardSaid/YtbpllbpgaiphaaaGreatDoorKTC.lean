/- Part KTC of the proof that a law of this program answers yes at every input: no conditions beyond the given statement. -/
import Derived.Test.YtbpllbpgaiphaaaGreatDoorRows
import Derived.LaidByTextLater
import Derived.SevenTiedAt
import Derived.KernelRfl
import Derived.Test.YtbpllbpgaiphaaaGreatDoorKTA
set_option linter.unusedSimpArgs false
set_option linter.unusedVariables false
set_option linter.all false
/- A part of the tie of the laid variables to the program. -/
namespace Go.Proofs.YtbpllbpgaiphaaaGreatDoor
open Go
theorem tie7 : ∀ os tape, varsDone Tryz.prog 400 (varsId Tryz.prog) os tape = true := fun _ _ => by kernel_rfl
end Go.Proofs.YtbpllbpgaiphaaaGreatDoor

