/-
  NARROWER THAN 'FOR EVERY INPUT', by the rows' own cells (each row's printed sentence says how): ResourceSame: loops, laid · ResourceJoins: laid · ResourceBack: loops, laid · ResourceTwice: laid · ResourceOthers: laid · ResourceWrites: loops, laid · ResourceReads: laid · ResourceDeep: laid.
  DERIVED. THE GIVEN ROWS OF THIS SEAT. 8 by the template 'for every input the law returns true; each argument reads behind the call as it read before'; 0 by the template 'total and deterministic' (their statements: YtceklkdnejcanaaGreatDoorTotals.lean).
  GIVEN WITH THE SEED: the statements are not yours to turn. If you find one false, say at which input.
  Laid BY PROGRAM, IN A SANDBOX (cutbox-rows.mjs): the forced cells as the released guide's own fill.sh prints them over the translation 62b9f4c93be2d2fe… (all of the seat's roots in one cut). By AI agents, Wed Nov 11 2026. No macro, syntax, notation, axiom, sorry.
-/
import Derived.Test.YtceklkdnejcanaaGreatDoorChecked
import GoSem.Claim
import GoSem.ClaimJoined
import GoSem.ClaimMapViews
import Derived.JoinedTies
import Derived.KernelRfl
namespace Go.Proofs.YtceklkdnejcanaaGreatDoor
/- THE CELL 'sum', in the pinned program and in every row, IS THE sha256 OF THE DUMP (.gsa) THAT YtceklkdnejcanaaGreatDoorProg.lean LOADS. Nothing in Lean hashes anything: it is a label: what it is worth is what the hold of that sum in a sandbox is worth. -/
noncomputable def Tryz.pinned : Pinned := { name := "ytceklkdnejcanaagreatdoor", sum := "62b9f4c93be2d2fe23ad6fb26bbdefd386426b06a010ab71a5d910394da8f1cc", checked := Tryz.checked }
namespace Rows
def none {H : Type} : Left H := { results := [], args := [] }

/- WHAT THE LISTED PACKAGE-LEVEL VARIABLES READ AS WHEN THE CALL BEGINS. Each datum BY PROGRAM (the guide's laid-datum.mjs) off the statement by which the dump's own 'gosem.cut.vars' lays the variable. In a bare row this is a premise. The card (YtceklkdnejcanaaGreatDoorCards.lean) ties it to the program's text. -/
def laid_errors_errorType {H : Type} : DataW H := .iface "internal/reflectlite.rtype" (.agg [.ptr (.lit (.string [101, 114, 114, 111, 114]))])

/-- 'hyglaw10.ResourceSame': WHATEVER THE INPUT: true; the input reads as it did. -/
def resourceSameSpec : ChangeSpec := { name := "resourceSame", fn := fun _ => fun
  | [d1, d2] => { results := [.lit (.bool true)], args := [d1, d2] }
  | _ => none }
def resourceSameRow : OpenClaim := { program := "ytceklkdnejcanaagreatdoor", sum := "62b9f4c93be2d2fe23ad6fb26bbdefd386426b06a010ab71a5d910394da8f1cc", func := "hygrometer/hyglaw10.ResourceSame", spec := "resourceSame", inPlace := ["internal/abi.NoEscape", "internal/reflectlite.ValueOf", "(internal/reflectlite.Value).Type", "(internal/reflectlite.Value).IsNil", "internal/reflectlite.TypeOf", "(internal/reflectlite.Value).Elem", "(internal/reflectlite.Value).Set", "internal/bytealg.MakeNoZero"], unfollowed := true, recurses := true, named := ["errors.errorType"], loops := true, apart := false, laid := [("errors.errorType", laid_errors_errorType)] }
def ResourceSameSaid : Prop := resourceSameRow.holds Tryz.pinned (OpenSpec.ofChange resourceSameSpec)

/-- ITS FALSE NEIGHBOUR: 'it returns false'. Refute it at one input. -/
def resourceSameWrong : ChangeSpec := { name := "resourceSame", fn := fun _ => fun
  | [d1, d2] => { results := [.lit (.bool false)], args := [d1, d2] }
  | _ => none }
def ResourceSameWrongFalsely : Prop := resourceSameRow.holds Tryz.pinned (OpenSpec.ofChange resourceSameWrong)

/-- 'hyglaw10.ResourceJoins': WHATEVER THE INPUT: true; the input reads as it did. -/
def resourceJoinsSpec : ChangeSpec := { name := "resourceJoins", fn := fun _ => fun
  | [d1, d2, d3] => { results := [.lit (.bool true)], args := [d1, d2, d3] }
  | _ => none }
def resourceJoinsRow : OpenClaim := { program := "ytceklkdnejcanaagreatdoor", sum := "62b9f4c93be2d2fe23ad6fb26bbdefd386426b06a010ab71a5d910394da8f1cc", func := "hygrometer/hyglaw10.ResourceJoins", spec := "resourceJoins", inPlace := ["internal/abi.NoEscape", "internal/reflectlite.ValueOf", "(internal/reflectlite.Value).Type", "(internal/reflectlite.Value).IsNil", "internal/reflectlite.TypeOf", "(internal/reflectlite.Value).Elem", "(internal/reflectlite.Value).Set", "internal/bytealg.MakeNoZero"], unfollowed := true, recurses := true, named := ["errors.errorType"], apart := false, laid := [("errors.errorType", laid_errors_errorType)] }
def ResourceJoinsSaid : Prop := resourceJoinsRow.holds Tryz.pinned (OpenSpec.ofChange resourceJoinsSpec)

/-- ITS FALSE NEIGHBOUR: 'it returns false'. Refute it at one input. -/
def resourceJoinsWrong : ChangeSpec := { name := "resourceJoins", fn := fun _ => fun
  | [d1, d2, d3] => { results := [.lit (.bool false)], args := [d1, d2, d3] }
  | _ => none }
def ResourceJoinsWrongFalsely : Prop := resourceJoinsRow.holds Tryz.pinned (OpenSpec.ofChange resourceJoinsWrong)

/-- 'hyglaw10.ResourceBack': WHATEVER THE INPUT: true; the input reads as it did. -/
def resourceBackSpec : ChangeSpec := { name := "resourceBack", fn := fun _ => fun
  | [d1, d2, d3] => { results := [.lit (.bool true)], args := [d1, d2, d3] }
  | _ => none }
def resourceBackRow : OpenClaim := { program := "ytceklkdnejcanaagreatdoor", sum := "62b9f4c93be2d2fe23ad6fb26bbdefd386426b06a010ab71a5d910394da8f1cc", func := "hygrometer/hyglaw10.ResourceBack", spec := "resourceBack", inPlace := ["internal/abi.NoEscape", "internal/reflectlite.ValueOf", "(internal/reflectlite.Value).Type", "(internal/reflectlite.Value).IsNil", "internal/reflectlite.TypeOf", "(internal/reflectlite.Value).Elem", "(internal/reflectlite.Value).Set", "internal/bytealg.MakeNoZero"], unfollowed := true, recurses := true, named := ["errors.errorType"], loops := true, apart := false, laid := [("errors.errorType", laid_errors_errorType)] }
def ResourceBackSaid : Prop := resourceBackRow.holds Tryz.pinned (OpenSpec.ofChange resourceBackSpec)

/-- ITS FALSE NEIGHBOUR: 'it returns false'. Refute it at one input. -/
def resourceBackWrong : ChangeSpec := { name := "resourceBack", fn := fun _ => fun
  | [d1, d2, d3] => { results := [.lit (.bool false)], args := [d1, d2, d3] }
  | _ => none }
def ResourceBackWrongFalsely : Prop := resourceBackRow.holds Tryz.pinned (OpenSpec.ofChange resourceBackWrong)

/-- 'hyglaw10.ResourceTwice': WHATEVER THE INPUT: true; the input reads as it did. -/
def resourceTwiceSpec : ChangeSpec := { name := "resourceTwice", fn := fun _ => fun
  | [d1, d2] => { results := [.lit (.bool true)], args := [d1, d2] }
  | _ => none }
def resourceTwiceRow : OpenClaim := { program := "ytceklkdnejcanaagreatdoor", sum := "62b9f4c93be2d2fe23ad6fb26bbdefd386426b06a010ab71a5d910394da8f1cc", func := "hygrometer/hyglaw10.ResourceTwice", spec := "resourceTwice", inPlace := ["internal/abi.NoEscape", "internal/reflectlite.ValueOf", "(internal/reflectlite.Value).Type", "(internal/reflectlite.Value).IsNil", "internal/reflectlite.TypeOf", "(internal/reflectlite.Value).Elem", "(internal/reflectlite.Value).Set", "internal/bytealg.MakeNoZero"], unfollowed := true, recurses := true, named := ["errors.errorType"], apart := false, laid := [("errors.errorType", laid_errors_errorType)] }
def ResourceTwiceSaid : Prop := resourceTwiceRow.holds Tryz.pinned (OpenSpec.ofChange resourceTwiceSpec)

/-- ITS FALSE NEIGHBOUR: 'it returns false'. Refute it at one input. -/
def resourceTwiceWrong : ChangeSpec := { name := "resourceTwice", fn := fun _ => fun
  | [d1, d2] => { results := [.lit (.bool false)], args := [d1, d2] }
  | _ => none }
def ResourceTwiceWrongFalsely : Prop := resourceTwiceRow.holds Tryz.pinned (OpenSpec.ofChange resourceTwiceWrong)

/-- 'hyglaw10.ResourceOthers': WHATEVER THE INPUT: true; the input reads as it did. -/
def resourceOthersSpec : ChangeSpec := { name := "resourceOthers", fn := fun _ => fun
  | [d1, d2, d3, d4] => { results := [.lit (.bool true)], args := [d1, d2, d3, d4] }
  | _ => none }
def resourceOthersRow : OpenClaim := { program := "ytceklkdnejcanaagreatdoor", sum := "62b9f4c93be2d2fe23ad6fb26bbdefd386426b06a010ab71a5d910394da8f1cc", func := "hygrometer/hyglaw10.ResourceOthers", spec := "resourceOthers", inPlace := ["internal/abi.NoEscape", "internal/reflectlite.ValueOf", "(internal/reflectlite.Value).Type", "(internal/reflectlite.Value).IsNil", "internal/reflectlite.TypeOf", "(internal/reflectlite.Value).Elem", "(internal/reflectlite.Value).Set", "internal/bytealg.MakeNoZero"], unfollowed := true, recurses := true, named := ["errors.errorType"], apart := false, laid := [("errors.errorType", laid_errors_errorType)] }
def ResourceOthersSaid : Prop := resourceOthersRow.holds Tryz.pinned (OpenSpec.ofChange resourceOthersSpec)

/-- ITS FALSE NEIGHBOUR: 'it returns false'. Refute it at one input. -/
def resourceOthersWrong : ChangeSpec := { name := "resourceOthers", fn := fun _ => fun
  | [d1, d2, d3, d4] => { results := [.lit (.bool false)], args := [d1, d2, d3, d4] }
  | _ => none }
def ResourceOthersWrongFalsely : Prop := resourceOthersRow.holds Tryz.pinned (OpenSpec.ofChange resourceOthersWrong)

/-- 'hyglaw10.ResourceWrites': WHATEVER THE INPUT: true; the input reads as it did. -/
def resourceWritesSpec : ChangeSpec := { name := "resourceWrites", fn := fun _ => fun
  | [d1, d2] => { results := [.lit (.bool true)], args := [d1, d2] }
  | _ => none }
def resourceWritesRow : OpenClaim := { program := "ytceklkdnejcanaagreatdoor", sum := "62b9f4c93be2d2fe23ad6fb26bbdefd386426b06a010ab71a5d910394da8f1cc", func := "hygrometer/hyglaw10.ResourceWrites", spec := "resourceWrites", inPlace := ["internal/abi.NoEscape", "internal/reflectlite.ValueOf", "(internal/reflectlite.Value).Type", "(internal/reflectlite.Value).IsNil", "internal/reflectlite.TypeOf", "(internal/reflectlite.Value).Elem", "(internal/reflectlite.Value).Set", "internal/bytealg.MakeNoZero"], unfollowed := true, recurses := true, named := ["errors.errorType"], loops := true, apart := false, laid := [("errors.errorType", laid_errors_errorType)] }
def ResourceWritesSaid : Prop := resourceWritesRow.holds Tryz.pinned (OpenSpec.ofChange resourceWritesSpec)

/-- ITS FALSE NEIGHBOUR: 'it returns false'. Refute it at one input. -/
def resourceWritesWrong : ChangeSpec := { name := "resourceWrites", fn := fun _ => fun
  | [d1, d2] => { results := [.lit (.bool false)], args := [d1, d2] }
  | _ => none }
def ResourceWritesWrongFalsely : Prop := resourceWritesRow.holds Tryz.pinned (OpenSpec.ofChange resourceWritesWrong)

/-- 'hyglaw10.ResourceReads': WHATEVER THE INPUT: true; the input reads as it did. -/
def resourceReadsSpec : ChangeSpec := { name := "resourceReads", fn := fun _ => fun
  | [d1, d2] => { results := [.lit (.bool true)], args := [d1, d2] }
  | _ => none }
def resourceReadsRow : OpenClaim := { program := "ytceklkdnejcanaagreatdoor", sum := "62b9f4c93be2d2fe23ad6fb26bbdefd386426b06a010ab71a5d910394da8f1cc", func := "hygrometer/hyglaw10.ResourceReads", spec := "resourceReads", inPlace := ["internal/abi.NoEscape", "internal/reflectlite.ValueOf", "(internal/reflectlite.Value).Type", "(internal/reflectlite.Value).IsNil", "internal/reflectlite.TypeOf", "(internal/reflectlite.Value).Elem", "(internal/reflectlite.Value).Set", "internal/bytealg.MakeNoZero"], unfollowed := true, recurses := true, named := ["errors.errorType"], apart := false, laid := [("errors.errorType", laid_errors_errorType)] }
def ResourceReadsSaid : Prop := resourceReadsRow.holds Tryz.pinned (OpenSpec.ofChange resourceReadsSpec)

/-- ITS FALSE NEIGHBOUR: 'it returns false'. Refute it at one input. -/
def resourceReadsWrong : ChangeSpec := { name := "resourceReads", fn := fun _ => fun
  | [d1, d2] => { results := [.lit (.bool false)], args := [d1, d2] }
  | _ => none }
def ResourceReadsWrongFalsely : Prop := resourceReadsRow.holds Tryz.pinned (OpenSpec.ofChange resourceReadsWrong)

/-- 'hyglaw10.ResourceDeep': WHATEVER THE INPUT: true; the input reads as it did. -/
def resourceDeepSpec : ChangeSpec := { name := "resourceDeep", fn := fun _ => fun
  | [d1, d2] => { results := [.lit (.bool true)], args := [d1, d2] }
  | _ => none }
def resourceDeepRow : OpenClaim := { program := "ytceklkdnejcanaagreatdoor", sum := "62b9f4c93be2d2fe23ad6fb26bbdefd386426b06a010ab71a5d910394da8f1cc", func := "hygrometer/hyglaw10.ResourceDeep", spec := "resourceDeep", inPlace := ["internal/abi.NoEscape", "internal/reflectlite.ValueOf", "(internal/reflectlite.Value).Type", "(internal/reflectlite.Value).IsNil", "internal/reflectlite.TypeOf", "(internal/reflectlite.Value).Elem", "(internal/reflectlite.Value).Set", "internal/bytealg.MakeNoZero"], unfollowed := true, recurses := true, named := ["errors.errorType"], apart := false, laid := [("errors.errorType", laid_errors_errorType)] }
def ResourceDeepSaid : Prop := resourceDeepRow.holds Tryz.pinned (OpenSpec.ofChange resourceDeepSpec)

/-- ITS FALSE NEIGHBOUR: 'it returns false'. Refute it at one input. -/
def resourceDeepWrong : ChangeSpec := { name := "resourceDeep", fn := fun _ => fun
  | [d1, d2] => { results := [.lit (.bool false)], args := [d1, d2] }
  | _ => none }
def ResourceDeepWrongFalsely : Prop := resourceDeepRow.holds Tryz.pinned (OpenSpec.ofChange resourceDeepWrong)

/- THE SECOND FORM. 'bulk': how many values and letters a reading holds, each counted each time it is reached (what is shared counts as often as it is met; a slice's spare places count too). A statement '..UptoSaid' is the law's where the arguments, and the package variables that the reading takes, are together of bulk at most 1048576: NARROWER than '..Said'. Prove '..Said' where nothing that the law and all that it calls make is longer than what came in: it says more and counts as full. Else prove '..UptoSaid'. A law counts once. -/
mutual
def uptoBulk {H : Type} : DataW H → Nat
  | .lit (.string bytes) => bytes.length + 1
  | .lit _ => 1
  | .nil => 1
  | .ptr d => uptoBulk d + 1
  | .slice elems spare => uptoBulkAll elems + uptoBulkAll spare + 1
  | .agg parts => uptoBulkAll parts + 1
  | .iface _ d => uptoBulk d + 1
  | .map entries => uptoBulkEntries entries + 1
  | .held _ => 1
def uptoBulkAll {H : Type} : List (DataW H) → Nat
  | [] => 0
  | d :: r => uptoBulk d + uptoBulkAll r
def uptoBulkEntries {H : Type} : List (Lit × DataW H) → Nat
  | [] => 0
  | x :: r => uptoBulkEntry x + uptoBulkEntries r
def uptoBulkEntry {H : Type} : Lit × DataW H → Nat
  | (.string bytes, d) => bytes.length + uptoBulk d + 1
  | (_, d) => uptoBulk d + 1
 end
def uptoSmall : (H : Type) → List (DataW H) → Bool := fun _ ds => decide (uptoBulkAll ds ≤ 1048576)
def OpenSpec.upto (s : _root_.Go.ChangeSpec) : _root_.Go.OpenSpec := { _root_.Go.OpenSpec.ofChange s with cond := some uptoSmall }

/-- 'hyglaw10.ResourceSame', WHERE WHAT IT READS IS OF BULK AT MOST 1048576: true; the input reads as it did. -/
def resourceSameUptoRow : OpenClaim := { program := "ytceklkdnejcanaagreatdoor", sum := "62b9f4c93be2d2fe23ad6fb26bbdefd386426b06a010ab71a5d910394da8f1cc", func := "hygrometer/hyglaw10.ResourceSame", spec := "resourceSame", inPlace := ["internal/abi.NoEscape", "internal/reflectlite.ValueOf", "(internal/reflectlite.Value).Type", "(internal/reflectlite.Value).IsNil", "internal/reflectlite.TypeOf", "(internal/reflectlite.Value).Elem", "(internal/reflectlite.Value).Set", "internal/bytealg.MakeNoZero"], unfollowed := true, recurses := true, named := ["errors.errorType"], loops := true, apart := false, laid := [("errors.errorType", laid_errors_errorType)], narrowed := true }
def ResourceSameUptoSaid : Prop := resourceSameUptoRow.holds Tryz.pinned (OpenSpec.upto resourceSameSpec)

/-- 'hyglaw10.ResourceJoins', WHERE WHAT IT READS IS OF BULK AT MOST 1048576: true; the input reads as it did. -/
def resourceJoinsUptoRow : OpenClaim := { program := "ytceklkdnejcanaagreatdoor", sum := "62b9f4c93be2d2fe23ad6fb26bbdefd386426b06a010ab71a5d910394da8f1cc", func := "hygrometer/hyglaw10.ResourceJoins", spec := "resourceJoins", inPlace := ["internal/abi.NoEscape", "internal/reflectlite.ValueOf", "(internal/reflectlite.Value).Type", "(internal/reflectlite.Value).IsNil", "internal/reflectlite.TypeOf", "(internal/reflectlite.Value).Elem", "(internal/reflectlite.Value).Set", "internal/bytealg.MakeNoZero"], unfollowed := true, recurses := true, named := ["errors.errorType"], apart := false, laid := [("errors.errorType", laid_errors_errorType)], narrowed := true }
def ResourceJoinsUptoSaid : Prop := resourceJoinsUptoRow.holds Tryz.pinned (OpenSpec.upto resourceJoinsSpec)

/-- 'hyglaw10.ResourceBack', WHERE WHAT IT READS IS OF BULK AT MOST 1048576: true; the input reads as it did. -/
def resourceBackUptoRow : OpenClaim := { program := "ytceklkdnejcanaagreatdoor", sum := "62b9f4c93be2d2fe23ad6fb26bbdefd386426b06a010ab71a5d910394da8f1cc", func := "hygrometer/hyglaw10.ResourceBack", spec := "resourceBack", inPlace := ["internal/abi.NoEscape", "internal/reflectlite.ValueOf", "(internal/reflectlite.Value).Type", "(internal/reflectlite.Value).IsNil", "internal/reflectlite.TypeOf", "(internal/reflectlite.Value).Elem", "(internal/reflectlite.Value).Set", "internal/bytealg.MakeNoZero"], unfollowed := true, recurses := true, named := ["errors.errorType"], loops := true, apart := false, laid := [("errors.errorType", laid_errors_errorType)], narrowed := true }
def ResourceBackUptoSaid : Prop := resourceBackUptoRow.holds Tryz.pinned (OpenSpec.upto resourceBackSpec)

/-- 'hyglaw10.ResourceTwice', WHERE WHAT IT READS IS OF BULK AT MOST 1048576: true; the input reads as it did. -/
def resourceTwiceUptoRow : OpenClaim := { program := "ytceklkdnejcanaagreatdoor", sum := "62b9f4c93be2d2fe23ad6fb26bbdefd386426b06a010ab71a5d910394da8f1cc", func := "hygrometer/hyglaw10.ResourceTwice", spec := "resourceTwice", inPlace := ["internal/abi.NoEscape", "internal/reflectlite.ValueOf", "(internal/reflectlite.Value).Type", "(internal/reflectlite.Value).IsNil", "internal/reflectlite.TypeOf", "(internal/reflectlite.Value).Elem", "(internal/reflectlite.Value).Set", "internal/bytealg.MakeNoZero"], unfollowed := true, recurses := true, named := ["errors.errorType"], apart := false, laid := [("errors.errorType", laid_errors_errorType)], narrowed := true }
def ResourceTwiceUptoSaid : Prop := resourceTwiceUptoRow.holds Tryz.pinned (OpenSpec.upto resourceTwiceSpec)

/-- 'hyglaw10.ResourceOthers', WHERE WHAT IT READS IS OF BULK AT MOST 1048576: true; the input reads as it did. -/
def resourceOthersUptoRow : OpenClaim := { program := "ytceklkdnejcanaagreatdoor", sum := "62b9f4c93be2d2fe23ad6fb26bbdefd386426b06a010ab71a5d910394da8f1cc", func := "hygrometer/hyglaw10.ResourceOthers", spec := "resourceOthers", inPlace := ["internal/abi.NoEscape", "internal/reflectlite.ValueOf", "(internal/reflectlite.Value).Type", "(internal/reflectlite.Value).IsNil", "internal/reflectlite.TypeOf", "(internal/reflectlite.Value).Elem", "(internal/reflectlite.Value).Set", "internal/bytealg.MakeNoZero"], unfollowed := true, recurses := true, named := ["errors.errorType"], apart := false, laid := [("errors.errorType", laid_errors_errorType)], narrowed := true }
def ResourceOthersUptoSaid : Prop := resourceOthersUptoRow.holds Tryz.pinned (OpenSpec.upto resourceOthersSpec)

/-- 'hyglaw10.ResourceWrites', WHERE WHAT IT READS IS OF BULK AT MOST 1048576: true; the input reads as it did. -/
def resourceWritesUptoRow : OpenClaim := { program := "ytceklkdnejcanaagreatdoor", sum := "62b9f4c93be2d2fe23ad6fb26bbdefd386426b06a010ab71a5d910394da8f1cc", func := "hygrometer/hyglaw10.ResourceWrites", spec := "resourceWrites", inPlace := ["internal/abi.NoEscape", "internal/reflectlite.ValueOf", "(internal/reflectlite.Value).Type", "(internal/reflectlite.Value).IsNil", "internal/reflectlite.TypeOf", "(internal/reflectlite.Value).Elem", "(internal/reflectlite.Value).Set", "internal/bytealg.MakeNoZero"], unfollowed := true, recurses := true, named := ["errors.errorType"], loops := true, apart := false, laid := [("errors.errorType", laid_errors_errorType)], narrowed := true }
def ResourceWritesUptoSaid : Prop := resourceWritesUptoRow.holds Tryz.pinned (OpenSpec.upto resourceWritesSpec)

/-- 'hyglaw10.ResourceReads', WHERE WHAT IT READS IS OF BULK AT MOST 1048576: true; the input reads as it did. -/
def resourceReadsUptoRow : OpenClaim := { program := "ytceklkdnejcanaagreatdoor", sum := "62b9f4c93be2d2fe23ad6fb26bbdefd386426b06a010ab71a5d910394da8f1cc", func := "hygrometer/hyglaw10.ResourceReads", spec := "resourceReads", inPlace := ["internal/abi.NoEscape", "internal/reflectlite.ValueOf", "(internal/reflectlite.Value).Type", "(internal/reflectlite.Value).IsNil", "internal/reflectlite.TypeOf", "(internal/reflectlite.Value).Elem", "(internal/reflectlite.Value).Set", "internal/bytealg.MakeNoZero"], unfollowed := true, recurses := true, named := ["errors.errorType"], apart := false, laid := [("errors.errorType", laid_errors_errorType)], narrowed := true }
def ResourceReadsUptoSaid : Prop := resourceReadsUptoRow.holds Tryz.pinned (OpenSpec.upto resourceReadsSpec)

/-- 'hyglaw10.ResourceDeep', WHERE WHAT IT READS IS OF BULK AT MOST 1048576: true; the input reads as it did. -/
def resourceDeepUptoRow : OpenClaim := { program := "ytceklkdnejcanaagreatdoor", sum := "62b9f4c93be2d2fe23ad6fb26bbdefd386426b06a010ab71a5d910394da8f1cc", func := "hygrometer/hyglaw10.ResourceDeep", spec := "resourceDeep", inPlace := ["internal/abi.NoEscape", "internal/reflectlite.ValueOf", "(internal/reflectlite.Value).Type", "(internal/reflectlite.Value).IsNil", "internal/reflectlite.TypeOf", "(internal/reflectlite.Value).Elem", "(internal/reflectlite.Value).Set", "internal/bytealg.MakeNoZero"], unfollowed := true, recurses := true, named := ["errors.errorType"], apart := false, laid := [("errors.errorType", laid_errors_errorType)], narrowed := true }
def ResourceDeepUptoSaid : Prop := resourceDeepUptoRow.holds Tryz.pinned (OpenSpec.upto resourceDeepSpec)

end Rows
end Go.Proofs.YtceklkdnejcanaaGreatDoor
