/-
  NARROWER THAN 'FOR EVERY INPUT', by the rows' own cells (each row's printed sentence says how): ScopeJoins: laid · ScopeSame: loops, laid · ScopeBack: loops, laid · ScopeTwice: laid · ScopeOthers: laid · ScopeReads: laid · ScopeDeep: laid · ScopeWrites: loops, laid.
  DERIVED. THE GIVEN ROWS OF THIS SEAT. 8 by the template 'for every input the law returns true; each argument reads behind the call as it read before'; 0 by the template 'total and deterministic' (their statements: YtidkidjjncmciaaGreatDoorTotals.lean).
  GIVEN WITH THE SEED: the statements are not yours to turn. If you find one false, say at which input.
  Laid BY PROGRAM, IN A SANDBOX (cutbox-rows.mjs): the forced cells as the released guide's own fill.sh prints them over the translation a1be51477221b066… (all of the seat's roots in one cut). By AI agents, Wed Nov 11 2026. No macro, syntax, notation, axiom, sorry.
-/
import Derived.Test.YtidkidjjncmciaaGreatDoorChecked
import GoSem.Claim
import GoSem.ClaimJoined
import GoSem.ClaimMapViews
import Derived.JoinedTies
import Derived.KernelRfl
namespace Go.Proofs.YtidkidjjncmciaaGreatDoor
/- THE CELL 'sum', in the pinned program and in every row, IS THE sha256 OF THE DUMP (.gsa) THAT YtidkidjjncmciaaGreatDoorProg.lean LOADS. Nothing in Lean hashes anything: it is a label: what it is worth is what the hold of that sum in a sandbox is worth. -/
noncomputable def Tryz.pinned : Pinned := { name := "ytidkidjjncmciaagreatdoor", sum := "a1be51477221b0669c4466f774ff24cfbd05b5c40b470cd9cd95f2dbe7362467", checked := Tryz.checked }
namespace Rows
def none {H : Type} : Left H := { results := [], args := [] }

/- WHAT THE LISTED PACKAGE-LEVEL VARIABLES READ AS WHEN THE CALL BEGINS. Each datum BY PROGRAM (the guide's laid-datum.mjs) off the statement by which the dump's own 'gosem.cut.vars' lays the variable. In a bare row this is a premise. The card (YtidkidjjncmciaaGreatDoorCards.lean) ties it to the program's text. -/
def laid_errors_errorType {H : Type} : DataW H := .iface "internal/reflectlite.rtype" (.agg [.ptr (.lit (.string [101, 114, 114, 111, 114]))])

/-- 'hyglaw10.ScopeJoins': WHATEVER THE INPUT: true; the input reads as it did. -/
def scopeJoinsSpec : ChangeSpec := { name := "scopeJoins", fn := fun _ => fun
  | [d1, d2, d3] => { results := [.lit (.bool true)], args := [d1, d2, d3] }
  | _ => none }
def scopeJoinsRow : OpenClaim := { program := "ytidkidjjncmciaagreatdoor", sum := "a1be51477221b0669c4466f774ff24cfbd05b5c40b470cd9cd95f2dbe7362467", func := "hygrometer/hyglaw10.ScopeJoins", spec := "scopeJoins", inPlace := ["internal/abi.NoEscape", "internal/reflectlite.ValueOf", "(internal/reflectlite.Value).Type", "(internal/reflectlite.Value).IsNil", "internal/reflectlite.TypeOf", "(internal/reflectlite.Value).Elem", "(internal/reflectlite.Value).Set", "internal/bytealg.MakeNoZero"], unfollowed := true, recurses := true, named := ["errors.errorType"], apart := false, laid := [("errors.errorType", laid_errors_errorType)] }
def ScopeJoinsSaid : Prop := scopeJoinsRow.holds Tryz.pinned (OpenSpec.ofChange scopeJoinsSpec)

/-- ITS FALSE NEIGHBOUR: 'it returns false'. Refute it at one input. -/
def scopeJoinsWrong : ChangeSpec := { name := "scopeJoins", fn := fun _ => fun
  | [d1, d2, d3] => { results := [.lit (.bool false)], args := [d1, d2, d3] }
  | _ => none }
def ScopeJoinsWrongFalsely : Prop := scopeJoinsRow.holds Tryz.pinned (OpenSpec.ofChange scopeJoinsWrong)

/-- 'hyglaw10.ScopeSame': WHATEVER THE INPUT: true; the input reads as it did. -/
def scopeSameSpec : ChangeSpec := { name := "scopeSame", fn := fun _ => fun
  | [d1, d2] => { results := [.lit (.bool true)], args := [d1, d2] }
  | _ => none }
def scopeSameRow : OpenClaim := { program := "ytidkidjjncmciaagreatdoor", sum := "a1be51477221b0669c4466f774ff24cfbd05b5c40b470cd9cd95f2dbe7362467", func := "hygrometer/hyglaw10.ScopeSame", spec := "scopeSame", inPlace := ["internal/abi.NoEscape", "internal/reflectlite.ValueOf", "(internal/reflectlite.Value).Type", "(internal/reflectlite.Value).IsNil", "internal/reflectlite.TypeOf", "(internal/reflectlite.Value).Elem", "(internal/reflectlite.Value).Set", "internal/bytealg.MakeNoZero"], unfollowed := true, recurses := true, named := ["errors.errorType"], loops := true, apart := false, laid := [("errors.errorType", laid_errors_errorType)] }
def ScopeSameSaid : Prop := scopeSameRow.holds Tryz.pinned (OpenSpec.ofChange scopeSameSpec)

/-- ITS FALSE NEIGHBOUR: 'it returns false'. Refute it at one input. -/
def scopeSameWrong : ChangeSpec := { name := "scopeSame", fn := fun _ => fun
  | [d1, d2] => { results := [.lit (.bool false)], args := [d1, d2] }
  | _ => none }
def ScopeSameWrongFalsely : Prop := scopeSameRow.holds Tryz.pinned (OpenSpec.ofChange scopeSameWrong)

/-- 'hyglaw10.ScopeBack': WHATEVER THE INPUT: true; the input reads as it did. -/
def scopeBackSpec : ChangeSpec := { name := "scopeBack", fn := fun _ => fun
  | [d1, d2, d3] => { results := [.lit (.bool true)], args := [d1, d2, d3] }
  | _ => none }
def scopeBackRow : OpenClaim := { program := "ytidkidjjncmciaagreatdoor", sum := "a1be51477221b0669c4466f774ff24cfbd05b5c40b470cd9cd95f2dbe7362467", func := "hygrometer/hyglaw10.ScopeBack", spec := "scopeBack", inPlace := ["internal/abi.NoEscape", "internal/reflectlite.ValueOf", "(internal/reflectlite.Value).Type", "(internal/reflectlite.Value).IsNil", "internal/reflectlite.TypeOf", "(internal/reflectlite.Value).Elem", "(internal/reflectlite.Value).Set", "internal/bytealg.MakeNoZero"], unfollowed := true, recurses := true, named := ["errors.errorType"], loops := true, apart := false, laid := [("errors.errorType", laid_errors_errorType)] }
def ScopeBackSaid : Prop := scopeBackRow.holds Tryz.pinned (OpenSpec.ofChange scopeBackSpec)

/-- ITS FALSE NEIGHBOUR: 'it returns false'. Refute it at one input. -/
def scopeBackWrong : ChangeSpec := { name := "scopeBack", fn := fun _ => fun
  | [d1, d2, d3] => { results := [.lit (.bool false)], args := [d1, d2, d3] }
  | _ => none }
def ScopeBackWrongFalsely : Prop := scopeBackRow.holds Tryz.pinned (OpenSpec.ofChange scopeBackWrong)

/-- 'hyglaw10.ScopeTwice': WHATEVER THE INPUT: true; the input reads as it did. -/
def scopeTwiceSpec : ChangeSpec := { name := "scopeTwice", fn := fun _ => fun
  | [d1, d2] => { results := [.lit (.bool true)], args := [d1, d2] }
  | _ => none }
def scopeTwiceRow : OpenClaim := { program := "ytidkidjjncmciaagreatdoor", sum := "a1be51477221b0669c4466f774ff24cfbd05b5c40b470cd9cd95f2dbe7362467", func := "hygrometer/hyglaw10.ScopeTwice", spec := "scopeTwice", inPlace := ["internal/abi.NoEscape", "internal/reflectlite.ValueOf", "(internal/reflectlite.Value).Type", "(internal/reflectlite.Value).IsNil", "internal/reflectlite.TypeOf", "(internal/reflectlite.Value).Elem", "(internal/reflectlite.Value).Set", "internal/bytealg.MakeNoZero"], unfollowed := true, recurses := true, named := ["errors.errorType"], apart := false, laid := [("errors.errorType", laid_errors_errorType)] }
def ScopeTwiceSaid : Prop := scopeTwiceRow.holds Tryz.pinned (OpenSpec.ofChange scopeTwiceSpec)

/-- ITS FALSE NEIGHBOUR: 'it returns false'. Refute it at one input. -/
def scopeTwiceWrong : ChangeSpec := { name := "scopeTwice", fn := fun _ => fun
  | [d1, d2] => { results := [.lit (.bool false)], args := [d1, d2] }
  | _ => none }
def ScopeTwiceWrongFalsely : Prop := scopeTwiceRow.holds Tryz.pinned (OpenSpec.ofChange scopeTwiceWrong)

/-- 'hyglaw10.ScopeOthers': WHATEVER THE INPUT: true; the input reads as it did. -/
def scopeOthersSpec : ChangeSpec := { name := "scopeOthers", fn := fun _ => fun
  | [d1, d2, d3, d4] => { results := [.lit (.bool true)], args := [d1, d2, d3, d4] }
  | _ => none }
def scopeOthersRow : OpenClaim := { program := "ytidkidjjncmciaagreatdoor", sum := "a1be51477221b0669c4466f774ff24cfbd05b5c40b470cd9cd95f2dbe7362467", func := "hygrometer/hyglaw10.ScopeOthers", spec := "scopeOthers", inPlace := ["internal/abi.NoEscape", "internal/reflectlite.ValueOf", "(internal/reflectlite.Value).Type", "(internal/reflectlite.Value).IsNil", "internal/reflectlite.TypeOf", "(internal/reflectlite.Value).Elem", "(internal/reflectlite.Value).Set", "internal/bytealg.MakeNoZero"], unfollowed := true, recurses := true, named := ["errors.errorType"], apart := false, laid := [("errors.errorType", laid_errors_errorType)] }
def ScopeOthersSaid : Prop := scopeOthersRow.holds Tryz.pinned (OpenSpec.ofChange scopeOthersSpec)

/-- ITS FALSE NEIGHBOUR: 'it returns false'. Refute it at one input. -/
def scopeOthersWrong : ChangeSpec := { name := "scopeOthers", fn := fun _ => fun
  | [d1, d2, d3, d4] => { results := [.lit (.bool false)], args := [d1, d2, d3, d4] }
  | _ => none }
def ScopeOthersWrongFalsely : Prop := scopeOthersRow.holds Tryz.pinned (OpenSpec.ofChange scopeOthersWrong)

/-- 'hyglaw10.ScopeReads': WHATEVER THE INPUT: true; the input reads as it did. -/
def scopeReadsSpec : ChangeSpec := { name := "scopeReads", fn := fun _ => fun
  | [d1, d2] => { results := [.lit (.bool true)], args := [d1, d2] }
  | _ => none }
def scopeReadsRow : OpenClaim := { program := "ytidkidjjncmciaagreatdoor", sum := "a1be51477221b0669c4466f774ff24cfbd05b5c40b470cd9cd95f2dbe7362467", func := "hygrometer/hyglaw10.ScopeReads", spec := "scopeReads", inPlace := ["internal/abi.NoEscape", "internal/reflectlite.ValueOf", "(internal/reflectlite.Value).Type", "(internal/reflectlite.Value).IsNil", "internal/reflectlite.TypeOf", "(internal/reflectlite.Value).Elem", "(internal/reflectlite.Value).Set", "internal/bytealg.MakeNoZero"], unfollowed := true, recurses := true, named := ["errors.errorType"], apart := false, laid := [("errors.errorType", laid_errors_errorType)] }
def ScopeReadsSaid : Prop := scopeReadsRow.holds Tryz.pinned (OpenSpec.ofChange scopeReadsSpec)

/-- ITS FALSE NEIGHBOUR: 'it returns false'. Refute it at one input. -/
def scopeReadsWrong : ChangeSpec := { name := "scopeReads", fn := fun _ => fun
  | [d1, d2] => { results := [.lit (.bool false)], args := [d1, d2] }
  | _ => none }
def ScopeReadsWrongFalsely : Prop := scopeReadsRow.holds Tryz.pinned (OpenSpec.ofChange scopeReadsWrong)

/-- 'hyglaw10.ScopeDeep': WHATEVER THE INPUT: true; the input reads as it did. -/
def scopeDeepSpec : ChangeSpec := { name := "scopeDeep", fn := fun _ => fun
  | [d1, d2] => { results := [.lit (.bool true)], args := [d1, d2] }
  | _ => none }
def scopeDeepRow : OpenClaim := { program := "ytidkidjjncmciaagreatdoor", sum := "a1be51477221b0669c4466f774ff24cfbd05b5c40b470cd9cd95f2dbe7362467", func := "hygrometer/hyglaw10.ScopeDeep", spec := "scopeDeep", inPlace := ["internal/abi.NoEscape", "internal/reflectlite.ValueOf", "(internal/reflectlite.Value).Type", "(internal/reflectlite.Value).IsNil", "internal/reflectlite.TypeOf", "(internal/reflectlite.Value).Elem", "(internal/reflectlite.Value).Set", "internal/bytealg.MakeNoZero"], unfollowed := true, recurses := true, named := ["errors.errorType"], apart := false, laid := [("errors.errorType", laid_errors_errorType)] }
def ScopeDeepSaid : Prop := scopeDeepRow.holds Tryz.pinned (OpenSpec.ofChange scopeDeepSpec)

/-- ITS FALSE NEIGHBOUR: 'it returns false'. Refute it at one input. -/
def scopeDeepWrong : ChangeSpec := { name := "scopeDeep", fn := fun _ => fun
  | [d1, d2] => { results := [.lit (.bool false)], args := [d1, d2] }
  | _ => none }
def ScopeDeepWrongFalsely : Prop := scopeDeepRow.holds Tryz.pinned (OpenSpec.ofChange scopeDeepWrong)

/-- 'hyglaw10.ScopeWrites': WHATEVER THE INPUT: true; the input reads as it did. -/
def scopeWritesSpec : ChangeSpec := { name := "scopeWrites", fn := fun _ => fun
  | [d1, d2] => { results := [.lit (.bool true)], args := [d1, d2] }
  | _ => none }
def scopeWritesRow : OpenClaim := { program := "ytidkidjjncmciaagreatdoor", sum := "a1be51477221b0669c4466f774ff24cfbd05b5c40b470cd9cd95f2dbe7362467", func := "hygrometer/hyglaw10.ScopeWrites", spec := "scopeWrites", inPlace := ["internal/abi.NoEscape", "internal/reflectlite.ValueOf", "(internal/reflectlite.Value).Type", "(internal/reflectlite.Value).IsNil", "internal/reflectlite.TypeOf", "(internal/reflectlite.Value).Elem", "(internal/reflectlite.Value).Set", "internal/bytealg.MakeNoZero"], unfollowed := true, recurses := true, named := ["errors.errorType"], loops := true, apart := false, laid := [("errors.errorType", laid_errors_errorType)] }
def ScopeWritesSaid : Prop := scopeWritesRow.holds Tryz.pinned (OpenSpec.ofChange scopeWritesSpec)

/-- ITS FALSE NEIGHBOUR: 'it returns false'. Refute it at one input. -/
def scopeWritesWrong : ChangeSpec := { name := "scopeWrites", fn := fun _ => fun
  | [d1, d2] => { results := [.lit (.bool false)], args := [d1, d2] }
  | _ => none }
def ScopeWritesWrongFalsely : Prop := scopeWritesRow.holds Tryz.pinned (OpenSpec.ofChange scopeWritesWrong)

/- THE SECOND FORM. 'bulk': how many values and letters a reading holds, each counted each time it is reached (what is shared counts as often as it is met; a slice's spare places count too). A statement '..UptoSaid' is the law's where the arguments, and the package variables that the reading takes, are together of bulk at most 1048576: NARROWER than '..Said'. Prove '..Said' where nothing that the law and all that it calls make is longer than what came in: it says more and counts as full. Else prove '..UptoSaid'. A law counts once. -/
mutual
def uptoBulk {H : Type} : DataW H → Nat
  | .lit (.string bytes) => bytes.length + 1
  | .lit _ => 1
  | .nil => 1
  | .ptr d => uptoBulk d + 1
  | .slice elems spare => uptoBulkAll elems + uptoBulkAll spare + 1
  | .agg parts => uptoBulkAll parts + 1
  | .iface _ d => uptoBulk d + 1
  | .map entries => uptoBulkEntries entries + 1
  | .held _ => 1
def uptoBulkAll {H : Type} : List (DataW H) → Nat
  | [] => 0
  | d :: r => uptoBulk d + uptoBulkAll r
def uptoBulkEntries {H : Type} : List (Lit × DataW H) → Nat
  | [] => 0
  | x :: r => uptoBulkEntry x + uptoBulkEntries r
def uptoBulkEntry {H : Type} : Lit × DataW H → Nat
  | (.string bytes, d) => bytes.length + uptoBulk d + 1
  | (_, d) => uptoBulk d + 1
 end
def uptoSmall : (H : Type) → List (DataW H) → Bool := fun _ ds => decide (uptoBulkAll ds ≤ 1048576)
def OpenSpec.upto (s : _root_.Go.ChangeSpec) : _root_.Go.OpenSpec := { _root_.Go.OpenSpec.ofChange s with cond := some uptoSmall }

/-- 'hyglaw10.ScopeJoins', WHERE WHAT IT READS IS OF BULK AT MOST 1048576: true; the input reads as it did. -/
def scopeJoinsUptoRow : OpenClaim := { program := "ytidkidjjncmciaagreatdoor", sum := "a1be51477221b0669c4466f774ff24cfbd05b5c40b470cd9cd95f2dbe7362467", func := "hygrometer/hyglaw10.ScopeJoins", spec := "scopeJoins", inPlace := ["internal/abi.NoEscape", "internal/reflectlite.ValueOf", "(internal/reflectlite.Value).Type", "(internal/reflectlite.Value).IsNil", "internal/reflectlite.TypeOf", "(internal/reflectlite.Value).Elem", "(internal/reflectlite.Value).Set", "internal/bytealg.MakeNoZero"], unfollowed := true, recurses := true, named := ["errors.errorType"], apart := false, laid := [("errors.errorType", laid_errors_errorType)], narrowed := true }
def ScopeJoinsUptoSaid : Prop := scopeJoinsUptoRow.holds Tryz.pinned (OpenSpec.upto scopeJoinsSpec)

/-- 'hyglaw10.ScopeSame', WHERE WHAT IT READS IS OF BULK AT MOST 1048576: true; the input reads as it did. -/
def scopeSameUptoRow : OpenClaim := { program := "ytidkidjjncmciaagreatdoor", sum := "a1be51477221b0669c4466f774ff24cfbd05b5c40b470cd9cd95f2dbe7362467", func := "hygrometer/hyglaw10.ScopeSame", spec := "scopeSame", inPlace := ["internal/abi.NoEscape", "internal/reflectlite.ValueOf", "(internal/reflectlite.Value).Type", "(internal/reflectlite.Value).IsNil", "internal/reflectlite.TypeOf", "(internal/reflectlite.Value).Elem", "(internal/reflectlite.Value).Set", "internal/bytealg.MakeNoZero"], unfollowed := true, recurses := true, named := ["errors.errorType"], loops := true, apart := false, laid := [("errors.errorType", laid_errors_errorType)], narrowed := true }
def ScopeSameUptoSaid : Prop := scopeSameUptoRow.holds Tryz.pinned (OpenSpec.upto scopeSameSpec)

/-- 'hyglaw10.ScopeBack', WHERE WHAT IT READS IS OF BULK AT MOST 1048576: true; the input reads as it did. -/
def scopeBackUptoRow : OpenClaim := { program := "ytidkidjjncmciaagreatdoor", sum := "a1be51477221b0669c4466f774ff24cfbd05b5c40b470cd9cd95f2dbe7362467", func := "hygrometer/hyglaw10.ScopeBack", spec := "scopeBack", inPlace := ["internal/abi.NoEscape", "internal/reflectlite.ValueOf", "(internal/reflectlite.Value).Type", "(internal/reflectlite.Value).IsNil", "internal/reflectlite.TypeOf", "(internal/reflectlite.Value).Elem", "(internal/reflectlite.Value).Set", "internal/bytealg.MakeNoZero"], unfollowed := true, recurses := true, named := ["errors.errorType"], loops := true, apart := false, laid := [("errors.errorType", laid_errors_errorType)], narrowed := true }
def ScopeBackUptoSaid : Prop := scopeBackUptoRow.holds Tryz.pinned (OpenSpec.upto scopeBackSpec)

/-- 'hyglaw10.ScopeTwice', WHERE WHAT IT READS IS OF BULK AT MOST 1048576: true; the input reads as it did. -/
def scopeTwiceUptoRow : OpenClaim := { program := "ytidkidjjncmciaagreatdoor", sum := "a1be51477221b0669c4466f774ff24cfbd05b5c40b470cd9cd95f2dbe7362467", func := "hygrometer/hyglaw10.ScopeTwice", spec := "scopeTwice", inPlace := ["internal/abi.NoEscape", "internal/reflectlite.ValueOf", "(internal/reflectlite.Value).Type", "(internal/reflectlite.Value).IsNil", "internal/reflectlite.TypeOf", "(internal/reflectlite.Value).Elem", "(internal/reflectlite.Value).Set", "internal/bytealg.MakeNoZero"], unfollowed := true, recurses := true, named := ["errors.errorType"], apart := false, laid := [("errors.errorType", laid_errors_errorType)], narrowed := true }
def ScopeTwiceUptoSaid : Prop := scopeTwiceUptoRow.holds Tryz.pinned (OpenSpec.upto scopeTwiceSpec)

/-- 'hyglaw10.ScopeOthers', WHERE WHAT IT READS IS OF BULK AT MOST 1048576: true; the input reads as it did. -/
def scopeOthersUptoRow : OpenClaim := { program := "ytidkidjjncmciaagreatdoor", sum := "a1be51477221b0669c4466f774ff24cfbd05b5c40b470cd9cd95f2dbe7362467", func := "hygrometer/hyglaw10.ScopeOthers", spec := "scopeOthers", inPlace := ["internal/abi.NoEscape", "internal/reflectlite.ValueOf", "(internal/reflectlite.Value).Type", "(internal/reflectlite.Value).IsNil", "internal/reflectlite.TypeOf", "(internal/reflectlite.Value).Elem", "(internal/reflectlite.Value).Set", "internal/bytealg.MakeNoZero"], unfollowed := true, recurses := true, named := ["errors.errorType"], apart := false, laid := [("errors.errorType", laid_errors_errorType)], narrowed := true }
def ScopeOthersUptoSaid : Prop := scopeOthersUptoRow.holds Tryz.pinned (OpenSpec.upto scopeOthersSpec)

/-- 'hyglaw10.ScopeReads', WHERE WHAT IT READS IS OF BULK AT MOST 1048576: true; the input reads as it did. -/
def scopeReadsUptoRow : OpenClaim := { program := "ytidkidjjncmciaagreatdoor", sum := "a1be51477221b0669c4466f774ff24cfbd05b5c40b470cd9cd95f2dbe7362467", func := "hygrometer/hyglaw10.ScopeReads", spec := "scopeReads", inPlace := ["internal/abi.NoEscape", "internal/reflectlite.ValueOf", "(internal/reflectlite.Value).Type", "(internal/reflectlite.Value).IsNil", "internal/reflectlite.TypeOf", "(internal/reflectlite.Value).Elem", "(internal/reflectlite.Value).Set", "internal/bytealg.MakeNoZero"], unfollowed := true, recurses := true, named := ["errors.errorType"], apart := false, laid := [("errors.errorType", laid_errors_errorType)], narrowed := true }
def ScopeReadsUptoSaid : Prop := scopeReadsUptoRow.holds Tryz.pinned (OpenSpec.upto scopeReadsSpec)

/-- 'hyglaw10.ScopeDeep', WHERE WHAT IT READS IS OF BULK AT MOST 1048576: true; the input reads as it did. -/
def scopeDeepUptoRow : OpenClaim := { program := "ytidkidjjncmciaagreatdoor", sum := "a1be51477221b0669c4466f774ff24cfbd05b5c40b470cd9cd95f2dbe7362467", func := "hygrometer/hyglaw10.ScopeDeep", spec := "scopeDeep", inPlace := ["internal/abi.NoEscape", "internal/reflectlite.ValueOf", "(internal/reflectlite.Value).Type", "(internal/reflectlite.Value).IsNil", "internal/reflectlite.TypeOf", "(internal/reflectlite.Value).Elem", "(internal/reflectlite.Value).Set", "internal/bytealg.MakeNoZero"], unfollowed := true, recurses := true, named := ["errors.errorType"], apart := false, laid := [("errors.errorType", laid_errors_errorType)], narrowed := true }
def ScopeDeepUptoSaid : Prop := scopeDeepUptoRow.holds Tryz.pinned (OpenSpec.upto scopeDeepSpec)

/-- 'hyglaw10.ScopeWrites', WHERE WHAT IT READS IS OF BULK AT MOST 1048576: true; the input reads as it did. -/
def scopeWritesUptoRow : OpenClaim := { program := "ytidkidjjncmciaagreatdoor", sum := "a1be51477221b0669c4466f774ff24cfbd05b5c40b470cd9cd95f2dbe7362467", func := "hygrometer/hyglaw10.ScopeWrites", spec := "scopeWrites", inPlace := ["internal/abi.NoEscape", "internal/reflectlite.ValueOf", "(internal/reflectlite.Value).Type", "(internal/reflectlite.Value).IsNil", "internal/reflectlite.TypeOf", "(internal/reflectlite.Value).Elem", "(internal/reflectlite.Value).Set", "internal/bytealg.MakeNoZero"], unfollowed := true, recurses := true, named := ["errors.errorType"], loops := true, apart := false, laid := [("errors.errorType", laid_errors_errorType)], narrowed := true }
def ScopeWritesUptoSaid : Prop := scopeWritesUptoRow.holds Tryz.pinned (OpenSpec.upto scopeWritesSpec)

end Rows
end Go.Proofs.YtidkidjjncmciaaGreatDoor
