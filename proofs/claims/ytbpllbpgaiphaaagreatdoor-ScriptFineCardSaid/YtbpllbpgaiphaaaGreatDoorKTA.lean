/- Part KTA of the proof that a law of this program answers yes at every input: no conditions beyond the given statement. -/
import Derived.Test.YtbpllbpgaiphaaaGreatDoorRows
import Derived.LaidByTextLater
import Derived.SevenTiedAt
import Derived.KernelRfl
set_option linter.unusedSimpArgs false
set_option linter.unusedVariables false
set_option linter.all false
/- The laid variables; their words. -/
namespace Go.Proofs.YtbpllbpgaiphaaaGreatDoor
open Go
abbrev LL : List (String × DataW Unit) := [("internal/strconv.uint64pow10", Rows.laid_internal_strconv_uint64pow10), ("math/bits.deBruijn32tab", Rows.laid_math_bits_deBruijn32tab), ("math/bits.deBruijn64tab", Rows.laid_math_bits_deBruijn64tab), ("errors.errorType", Rows.laid_errors_errorType)]
theorem tie1 : Tryz.prog.worded (varsWordLater true) = true := by kernel_rfl
theorem tie2 : Tryz.prog.worded (varsWordLater !true) = false := by kernel_rfl
theorem tie3 : Tryz.prog.worded rootWordLater = true := by kernel_rfl
theorem tie4 : LL.map (fun x => Tryz.prog.kindOfLater x.1) = [LaidKind.data, .data, .data, .handle].map some := by kernel_rfl
theorem tie5 : (Tryz.prog.funcNamed "gosem.cut.vars").isSome = true := by kernel_rfl
end Go.Proofs.YtbpllbpgaiphaaaGreatDoor

