/- Part KVJ of the proof that a law of this program answers yes at every input: no conditions beyond the given statement. -/
import Derived.Test.YtbpllbpgaiphaaaGreatDoorKU
import Derived.Test.YtbpllbpgaiphaaaGreatDoorKVF
import Derived.Test.YtbpllbpgaiphaaaGreatDoorKVG
import Derived.Test.YtbpllbpgaiphaaaGreatDoorKVH
import Derived.Test.YtbpllbpgaiphaaaGreatDoorKVI
set_option linter.unusedSimpArgs false
set_option linter.unusedVariables false
set_option linter.all false
/- A closed fact of the row of ScriptFine. -/
namespace Go.Proofs.YtbpllbpgaiphaaaGreatDoor
open Go.ChangeShapes Go.WideShapes Go.RowKit
set_option maxRecDepth 100000
set_option maxHeartbeats 8000000

theorem fact1 : joinedFacts Tryz.pinned.checked.prog 3 Tryz.f3 Rows.scriptFineSpec Rows.scriptFineRow = true := by
  unfold joinedFacts
  rw [fact1a, fact1b, fact1c, fact1d]
  simp only [Bool.and_eq_true]
  repeat' apply And.intro
  all_goals first | exact trivial | (as_aux_lemma => kernel_rfl)
end Go.Proofs.YtbpllbpgaiphaaaGreatDoor

