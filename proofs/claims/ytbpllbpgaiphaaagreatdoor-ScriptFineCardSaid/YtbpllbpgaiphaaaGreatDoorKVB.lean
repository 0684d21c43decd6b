/- Part KVB of the proof that a law of this program answers yes at every input: no conditions beyond the given statement. -/
import Derived.Test.YtbpllbpgaiphaaaGreatDoorCards
import Derived.Test.YtbpllbpgaiphaaaGreatDoorKU
set_option linter.unusedSimpArgs false
set_option linter.unusedVariables false
set_option linter.all false
/- A closed fact of the row of ScriptFine. -/
namespace Go.Proofs.YtbpllbpgaiphaaaGreatDoor
open Go.ChangeShapes Go.WideShapes Go.RowKit
set_option maxRecDepth 100000
theorem fact2 : Tryz.pinned.checked.prog.funcNamed Rows.scriptFineRow.func = some 3 := by kernel_rfl
theorem fact3 : Tryz.f3.isInstance Tryz.pinned.checked.prog Rows.scriptFineRow.origin Rows.scriptFineRow.targs := of_decide_eq_true (by kernel_rfl)
theorem fact4 : Tryz.f3.isWrapper Tryz.pinned.checked.prog Rows.scriptFineRow.wrapper Rows.scriptFineRow.mainSum := by unfold Func.isWrapper; rw [if_neg (of_decide_eq_false (by kernel_rfl))]; exact ⟨rfl, rfl⟩
end Go.Proofs.YtbpllbpgaiphaaaGreatDoor

