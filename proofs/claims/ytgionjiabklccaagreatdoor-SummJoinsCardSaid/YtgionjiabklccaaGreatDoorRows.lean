/-
  NARROWER THAN 'FOR EVERY INPUT', by the rows' own cells (each row's printed sentence says how): SummReads: laid · SummJoins: laid · SummDeep: laid · SummWrites: loops, laid · SummSame: loops, laid · SummBack: loops, laid · SummTwice: laid · SummOthers: laid.
  DERIVED. THE GIVEN ROWS OF THIS SEAT. 8 by the template 'for every input the law returns true; each argument reads behind the call as it read before'; 0 by the template 'total and deterministic' (their statements: YtgionjiabklccaaGreatDoorTotals.lean).
  GIVEN WITH THE SEED: the statements are not yours to turn. If you find one false, say at which input.
  Laid BY PROGRAM, IN A SANDBOX (cutbox-rows.mjs): the forced cells as the released guide's own fill.sh prints them over the translation c02fa092e0e9e6e0… (all of the seat's roots in one cut). By AI agents, Wed Nov 11 2026. No macro, syntax, notation, axiom, sorry.
-/
import Derived.Test.YtgionjiabklccaaGreatDoorChecked
import GoSem.Claim
import GoSem.ClaimJoined
import GoSem.ClaimMapViews
import Derived.JoinedTies
import Derived.KernelRfl
namespace Go.Proofs.YtgionjiabklccaaGreatDoor
/- THE CELL 'sum', in the pinned program and in every row, IS THE sha256 OF THE DUMP (.gsa) THAT YtgionjiabklccaaGreatDoorProg.lean LOADS. Nothing in Lean hashes anything: it is a label: what it is worth is what the hold of that sum in a sandbox is worth. -/
noncomputable def Tryz.pinned : Pinned := { name := "ytgionjiabklccaagreatdoor", sum := "c02fa092e0e9e6e06e83135b60d708522586145b54438191894547e86614aa2f", checked := Tryz.checked }
namespace Rows
def none {H : Type} : Left H := { results := [], args := [] }

/- WHAT THE LISTED PACKAGE-LEVEL VARIABLES READ AS WHEN THE CALL BEGINS. Each datum BY PROGRAM (the guide's laid-datum.mjs) off the statement by which the dump's own 'gosem.cut.vars' lays the variable. In a bare row this is a premise. The card (YtgionjiabklccaaGreatDoorCards.lean) ties it to the program's text. -/
def laid_errors_errorType {H : Type} : DataW H := .iface "internal/reflectlite.rtype" (.agg [.ptr (.lit (.string [101, 114, 114, 111, 114]))])

/-- 'hyglaw15.SummReads': WHATEVER THE INPUT: true; the input reads as it did. -/
def summReadsSpec : ChangeSpec := { name := "summReads", fn := fun _ => fun
  | [d1, d2] => { results := [.lit (.bool true)], args := [d1, d2] }
  | _ => none }
def summReadsRow : OpenClaim := { program := "ytgionjiabklccaagreatdoor", sum := "c02fa092e0e9e6e06e83135b60d708522586145b54438191894547e86614aa2f", func := "hygrometer/hyglaw15.SummReads", spec := "summReads", inPlace := ["internal/abi.NoEscape", "internal/reflectlite.ValueOf", "(internal/reflectlite.Value).Type", "(internal/reflectlite.Value).IsNil", "internal/reflectlite.TypeOf", "(internal/reflectlite.Value).Elem", "(internal/reflectlite.Value).Set", "internal/bytealg.MakeNoZero"], unfollowed := true, recurses := true, named := ["errors.errorType"], apart := false, laid := [("errors.errorType", laid_errors_errorType)] }
def SummReadsSaid : Prop := summReadsRow.holds Tryz.pinned (OpenSpec.ofChange summReadsSpec)

/-- ITS FALSE NEIGHBOUR: 'it returns false'. Refute it at one input. -/
def summReadsWrong : ChangeSpec := { name := "summReads", fn := fun _ => fun
  | [d1, d2] => { results := [.lit (.bool false)], args := [d1, d2] }
  | _ => none }
def SummReadsWrongFalsely : Prop := summReadsRow.holds Tryz.pinned (OpenSpec.ofChange summReadsWrong)

/-- 'hyglaw15.SummJoins': WHATEVER THE INPUT: true; the input reads as it did. -/
def summJoinsSpec : ChangeSpec := { name := "summJoins", fn := fun _ => fun
  | [d1, d2, d3] => { results := [.lit (.bool true)], args := [d1, d2, d3] }
  | _ => none }
def summJoinsRow : OpenClaim := { program := "ytgionjiabklccaagreatdoor", sum := "c02fa092e0e9e6e06e83135b60d708522586145b54438191894547e86614aa2f", func := "hygrometer/hyglaw15.SummJoins", spec := "summJoins", inPlace := ["internal/abi.NoEscape", "internal/reflectlite.ValueOf", "(internal/reflectlite.Value).Type", "(internal/reflectlite.Value).IsNil", "internal/reflectlite.TypeOf", "(internal/reflectlite.Value).Elem", "(internal/reflectlite.Value).Set", "internal/bytealg.MakeNoZero"], unfollowed := true, recurses := true, named := ["errors.errorType"], apart := false, laid := [("errors.errorType", laid_errors_errorType)] }
def SummJoinsSaid : Prop := summJoinsRow.holds Tryz.pinned (OpenSpec.ofChange summJoinsSpec)

/-- ITS FALSE NEIGHBOUR: 'it returns false'. Refute it at one input. -/
def summJoinsWrong : ChangeSpec := { name := "summJoins", fn := fun _ => fun
  | [d1, d2, d3] => { results := [.lit (.bool false)], args := [d1, d2, d3] }
  | _ => none }
def SummJoinsWrongFalsely : Prop := summJoinsRow.holds Tryz.pinned (OpenSpec.ofChange summJoinsWrong)

/-- 'hyglaw15.SummDeep': WHATEVER THE INPUT: true; the input reads as it did. -/
def summDeepSpec : ChangeSpec := { name := "summDeep", fn := fun _ => fun
  | [d1, d2] => { results := [.lit (.bool true)], args := [d1, d2] }
  | _ => none }
def summDeepRow : OpenClaim := { program := "ytgionjiabklccaagreatdoor", sum := "c02fa092e0e9e6e06e83135b60d708522586145b54438191894547e86614aa2f", func := "hygrometer/hyglaw15.SummDeep", spec := "summDeep", inPlace := ["internal/abi.NoEscape", "internal/reflectlite.ValueOf", "(internal/reflectlite.Value).Type", "(internal/reflectlite.Value).IsNil", "internal/reflectlite.TypeOf", "(internal/reflectlite.Value).Elem", "(internal/reflectlite.Value).Set", "internal/bytealg.MakeNoZero"], unfollowed := true, recurses := true, named := ["errors.errorType"], apart := false, laid := [("errors.errorType", laid_errors_errorType)] }
def SummDeepSaid : Prop := summDeepRow.holds Tryz.pinned (OpenSpec.ofChange summDeepSpec)

/-- ITS FALSE NEIGHBOUR: 'it returns false'. Refute it at one input. -/
def summDeepWrong : ChangeSpec := { name := "summDeep", fn := fun _ => fun
  | [d1, d2] => { results := [.lit (.bool false)], args := [d1, d2] }
  | _ => none }
def SummDeepWrongFalsely : Prop := summDeepRow.holds Tryz.pinned (OpenSpec.ofChange summDeepWrong)

/-- 'hyglaw15.SummWrites': WHATEVER THE INPUT: true; the input reads as it did. -/
def summWritesSpec : ChangeSpec := { name := "summWrites", fn := fun _ => fun
  | [d1, d2] => { results := [.lit (.bool true)], args := [d1, d2] }
  | _ => none }
def summWritesRow : OpenClaim := { program := "ytgionjiabklccaagreatdoor", sum := "c02fa092e0e9e6e06e83135b60d708522586145b54438191894547e86614aa2f", func := "hygrometer/hyglaw15.SummWrites", spec := "summWrites", inPlace := ["internal/abi.NoEscape", "internal/reflectlite.ValueOf", "(internal/reflectlite.Value).Type", "(internal/reflectlite.Value).IsNil", "internal/reflectlite.TypeOf", "(internal/reflectlite.Value).Elem", "(internal/reflectlite.Value).Set", "internal/bytealg.MakeNoZero"], unfollowed := true, recurses := true, named := ["errors.errorType"], loops := true, apart := false, laid := [("errors.errorType", laid_errors_errorType)] }
def SummWritesSaid : Prop := summWritesRow.holds Tryz.pinned (OpenSpec.ofChange summWritesSpec)

/-- ITS FALSE NEIGHBOUR: 'it returns false'. Refute it at one input. -/
def summWritesWrong : ChangeSpec := { name := "summWrites", fn := fun _ => fun
  | [d1, d2] => { results := [.lit (.bool false)], args := [d1, d2] }
  | _ => none }
def SummWritesWrongFalsely : Prop := summWritesRow.holds Tryz.pinned (OpenSpec.ofChange summWritesWrong)

/-- 'hyglaw15.SummSame': WHATEVER THE INPUT: true; the input reads as it did. -/
def summSameSpec : ChangeSpec := { name := "summSame", fn := fun _ => fun
  | [d1, d2] => { results := [.lit (.bool true)], args := [d1, d2] }
  | _ => none }
def summSameRow : OpenClaim := { program := "ytgionjiabklccaagreatdoor", sum := "c02fa092e0e9e6e06e83135b60d708522586145b54438191894547e86614aa2f", func := "hygrometer/hyglaw15.SummSame", spec := "summSame", inPlace := ["internal/abi.NoEscape", "internal/reflectlite.ValueOf", "(internal/reflectlite.Value).Type", "(internal/reflectlite.Value).IsNil", "internal/reflectlite.TypeOf", "(internal/reflectlite.Value).Elem", "(internal/reflectlite.Value).Set", "internal/bytealg.MakeNoZero"], unfollowed := true, recurses := true, named := ["errors.errorType"], loops := true, apart := false, laid := [("errors.errorType", laid_errors_errorType)] }
def SummSameSaid : Prop := summSameRow.holds Tryz.pinned (OpenSpec.ofChange summSameSpec)

/-- ITS FALSE NEIGHBOUR: 'it returns false'. Refute it at one input. -/
def summSameWrong : ChangeSpec := { name := "summSame", fn := fun _ => fun
  | [d1, d2] => { results := [.lit (.bool false)], args := [d1, d2] }
  | _ => none }
def SummSameWrongFalsely : Prop := summSameRow.holds Tryz.pinned (OpenSpec.ofChange summSameWrong)

/-- 'hyglaw15.SummBack': WHATEVER THE INPUT: true; the input reads as it did. -/
def summBackSpec : ChangeSpec := { name := "summBack", fn := fun _ => fun
  | [d1, d2, d3] => { results := [.lit (.bool true)], args := [d1, d2, d3] }
  | _ => none }
def summBackRow : OpenClaim := { program := "ytgionjiabklccaagreatdoor", sum := "c02fa092e0e9e6e06e83135b60d708522586145b54438191894547e86614aa2f", func := "hygrometer/hyglaw15.SummBack", spec := "summBack", inPlace := ["internal/abi.NoEscape", "internal/reflectlite.ValueOf", "(internal/reflectlite.Value).Type", "(internal/reflectlite.Value).IsNil", "internal/reflectlite.TypeOf", "(internal/reflectlite.Value).Elem", "(internal/reflectlite.Value).Set", "internal/bytealg.MakeNoZero"], unfollowed := true, recurses := true, named := ["errors.errorType"], loops := true, apart := false, laid := [("errors.errorType", laid_errors_errorType)] }
def SummBackSaid : Prop := summBackRow.holds Tryz.pinned (OpenSpec.ofChange summBackSpec)

/-- ITS FALSE NEIGHBOUR: 'it returns false'. Refute it at one input. -/
def summBackWrong : ChangeSpec := { name := "summBack", fn := fun _ => fun
  | [d1, d2, d3] => { results := [.lit (.bool false)], args := [d1, d2, d3] }
  | _ => none }
def SummBackWrongFalsely : Prop := summBackRow.holds Tryz.pinned (OpenSpec.ofChange summBackWrong)

/-- 'hyglaw15.SummTwice': WHATEVER THE INPUT: true; the input reads as it did. -/
def summTwiceSpec : ChangeSpec := { name := "summTwice", fn := fun _ => fun
  | [d1, d2] => { results := [.lit (.bool true)], args := [d1, d2] }
  | _ => none }
def summTwiceRow : OpenClaim := { program := "ytgionjiabklccaagreatdoor", sum := "c02fa092e0e9e6e06e83135b60d708522586145b54438191894547e86614aa2f", func := "hygrometer/hyglaw15.SummTwice", spec := "summTwice", inPlace := ["internal/abi.NoEscape", "internal/reflectlite.ValueOf", "(internal/reflectlite.Value).Type", "(internal/reflectlite.Value).IsNil", "internal/reflectlite.TypeOf", "(internal/reflectlite.Value).Elem", "(internal/reflectlite.Value).Set", "internal/bytealg.MakeNoZero"], unfollowed := true, recurses := true, named := ["errors.errorType"], apart := false, laid := [("errors.errorType", laid_errors_errorType)] }
def SummTwiceSaid : Prop := summTwiceRow.holds Tryz.pinned (OpenSpec.ofChange summTwiceSpec)

/-- ITS FALSE NEIGHBOUR: 'it returns false'. Refute it at one input. -/
def summTwiceWrong : ChangeSpec := { name := "summTwice", fn := fun _ => fun
  | [d1, d2] => { results := [.lit (.bool false)], args := [d1, d2] }
  | _ => none }
def SummTwiceWrongFalsely : Prop := summTwiceRow.holds Tryz.pinned (OpenSpec.ofChange summTwiceWrong)

/-- 'hyglaw15.SummOthers': WHATEVER THE INPUT: true; the input reads as it did. -/
def summOthersSpec : ChangeSpec := { name := "summOthers", fn := fun _ => fun
  | [d1, d2, d3, d4] => { results := [.lit (.bool true)], args := [d1, d2, d3, d4] }
  | _ => none }
def summOthersRow : OpenClaim := { program := "ytgionjiabklccaagreatdoor", sum := "c02fa092e0e9e6e06e83135b60d708522586145b54438191894547e86614aa2f", func := "hygrometer/hyglaw15.SummOthers", spec := "summOthers", inPlace := ["internal/abi.NoEscape", "internal/reflectlite.ValueOf", "(internal/reflectlite.Value).Type", "(internal/reflectlite.Value).IsNil", "internal/reflectlite.TypeOf", "(internal/reflectlite.Value).Elem", "(internal/reflectlite.Value).Set", "internal/bytealg.MakeNoZero"], unfollowed := true, recurses := true, named := ["errors.errorType"], apart := false, laid := [("errors.errorType", laid_errors_errorType)] }
def SummOthersSaid : Prop := summOthersRow.holds Tryz.pinned (OpenSpec.ofChange summOthersSpec)

/-- ITS FALSE NEIGHBOUR: 'it returns false'. Refute it at one input. -/
def summOthersWrong : ChangeSpec := { name := "summOthers", fn := fun _ => fun
  | [d1, d2, d3, d4] => { results := [.lit (.bool false)], args := [d1, d2, d3, d4] }
  | _ => none }
def SummOthersWrongFalsely : Prop := summOthersRow.holds Tryz.pinned (OpenSpec.ofChange summOthersWrong)

/- THE SECOND FORM. 'bulk': how many values and letters a reading holds, each counted each time it is reached (what is shared counts as often as it is met; a slice's spare places count too). A statement '..UptoSaid' is the law's where the arguments, and the package variables that the reading takes, are together of bulk at most 1048576: NARROWER than '..Said'. Prove '..Said' where nothing that the law and all that it calls make is longer than what came in: it says more and counts as full. Else prove '..UptoSaid'. A law counts once. -/
mutual
def uptoBulk {H : Type} : DataW H → Nat
  | .lit (.string bytes) => bytes.length + 1
  | .lit _ => 1
  | .nil => 1
  | .ptr d => uptoBulk d + 1
  | .slice elems spare => uptoBulkAll elems + uptoBulkAll spare + 1
  | .agg parts => uptoBulkAll parts + 1
  | .iface _ d => uptoBulk d + 1
  | .map entries => uptoBulkEntries entries + 1
  | .held _ => 1
def uptoBulkAll {H : Type} : List (DataW H) → Nat
  | [] => 0
  | d :: r => uptoBulk d + uptoBulkAll r
def uptoBulkEntries {H : Type} : List (Lit × DataW H) → Nat
  | [] => 0
  | x :: r => uptoBulkEntry x + uptoBulkEntries r
def uptoBulkEntry {H : Type} : Lit × DataW H → Nat
  | (.string bytes, d) => bytes.length + uptoBulk d + 1
  | (_, d) => uptoBulk d + 1
 end
def uptoSmall : (H : Type) → List (DataW H) → Bool := fun _ ds => decide (uptoBulkAll ds ≤ 1048576)
def OpenSpec.upto (s : _root_.Go.ChangeSpec) : _root_.Go.OpenSpec := { _root_.Go.OpenSpec.ofChange s with cond := some uptoSmall }

/-- 'hyglaw15.SummReads', WHERE WHAT IT READS IS OF BULK AT MOST 1048576: true; the input reads as it did. -/
def summReadsUptoRow : OpenClaim := { program := "ytgionjiabklccaagreatdoor", sum := "c02fa092e0e9e6e06e83135b60d708522586145b54438191894547e86614aa2f", func := "hygrometer/hyglaw15.SummReads", spec := "summReads", inPlace := ["internal/abi.NoEscape", "internal/reflectlite.ValueOf", "(internal/reflectlite.Value).Type", "(internal/reflectlite.Value).IsNil", "internal/reflectlite.TypeOf", "(internal/reflectlite.Value).Elem", "(internal/reflectlite.Value).Set", "internal/bytealg.MakeNoZero"], unfollowed := true, recurses := true, named := ["errors.errorType"], apart := false, laid := [("errors.errorType", laid_errors_errorType)], narrowed := true }
def SummReadsUptoSaid : Prop := summReadsUptoRow.holds Tryz.pinned (OpenSpec.upto summReadsSpec)

/-- 'hyglaw15.SummJoins', WHERE WHAT IT READS IS OF BULK AT MOST 1048576: true; the input reads as it did. -/
def summJoinsUptoRow : OpenClaim := { program := "ytgionjiabklccaagreatdoor", sum := "c02fa092e0e9e6e06e83135b60d708522586145b54438191894547e86614aa2f", func := "hygrometer/hyglaw15.SummJoins", spec := "summJoins", inPlace := ["internal/abi.NoEscape", "internal/reflectlite.ValueOf", "(internal/reflectlite.Value).Type", "(internal/reflectlite.Value).IsNil", "internal/reflectlite.TypeOf", "(internal/reflectlite.Value).Elem", "(internal/reflectlite.Value).Set", "internal/bytealg.MakeNoZero"], unfollowed := true, recurses := true, named := ["errors.errorType"], apart := false, laid := [("errors.errorType", laid_errors_errorType)], narrowed := true }
def SummJoinsUptoSaid : Prop := summJoinsUptoRow.holds Tryz.pinned (OpenSpec.upto summJoinsSpec)

/-- 'hyglaw15.SummDeep', WHERE WHAT IT READS IS OF BULK AT MOST 1048576: true; the input reads as it did. -/
def summDeepUptoRow : OpenClaim := { program := "ytgionjiabklccaagreatdoor", sum := "c02fa092e0e9e6e06e83135b60d708522586145b54438191894547e86614aa2f", func := "hygrometer/hyglaw15.SummDeep", spec := "summDeep", inPlace := ["internal/abi.NoEscape", "internal/reflectlite.ValueOf", "(internal/reflectlite.Value).Type", "(internal/reflectlite.Value).IsNil", "internal/reflectlite.TypeOf", "(internal/reflectlite.Value).Elem", "(internal/reflectlite.Value).Set", "internal/bytealg.MakeNoZero"], unfollowed := true, recurses := true, named := ["errors.errorType"], apart := false, laid := [("errors.errorType", laid_errors_errorType)], narrowed := true }
def SummDeepUptoSaid : Prop := summDeepUptoRow.holds Tryz.pinned (OpenSpec.upto summDeepSpec)

/-- 'hyglaw15.SummWrites', WHERE WHAT IT READS IS OF BULK AT MOST 1048576: true; the input reads as it did. -/
def summWritesUptoRow : OpenClaim := { program := "ytgionjiabklccaagreatdoor", sum := "c02fa092e0e9e6e06e83135b60d708522586145b54438191894547e86614aa2f", func := "hygrometer/hyglaw15.SummWrites", spec := "summWrites", inPlace := ["internal/abi.NoEscape", "internal/reflectlite.ValueOf", "(internal/reflectlite.Value).Type", "(internal/reflectlite.Value).IsNil", "internal/reflectlite.TypeOf", "(internal/reflectlite.Value).Elem", "(internal/reflectlite.Value).Set", "internal/bytealg.MakeNoZero"], unfollowed := true, recurses := true, named := ["errors.errorType"], loops := true, apart := false, laid := [("errors.errorType", laid_errors_errorType)], narrowed := true }
def SummWritesUptoSaid : Prop := summWritesUptoRow.holds Tryz.pinned (OpenSpec.upto summWritesSpec)

/-- 'hyglaw15.SummSame', WHERE WHAT IT READS IS OF BULK AT MOST 1048576: true; the input reads as it did. -/
def summSameUptoRow : OpenClaim := { program := "ytgionjiabklccaagreatdoor", sum := "c02fa092e0e9e6e06e83135b60d708522586145b54438191894547e86614aa2f", func := "hygrometer/hyglaw15.SummSame", spec := "summSame", inPlace := ["internal/abi.NoEscape", "internal/reflectlite.ValueOf", "(internal/reflectlite.Value).Type", "(internal/reflectlite.Value).IsNil", "internal/reflectlite.TypeOf", "(internal/reflectlite.Value).Elem", "(internal/reflectlite.Value).Set", "internal/bytealg.MakeNoZero"], unfollowed := true, recurses := true, named := ["errors.errorType"], loops := true, apart := false, laid := [("errors.errorType", laid_errors_errorType)], narrowed := true }
def SummSameUptoSaid : Prop := summSameUptoRow.holds Tryz.pinned (OpenSpec.upto summSameSpec)

/-- 'hyglaw15.SummBack', WHERE WHAT IT READS IS OF BULK AT MOST 1048576: true; the input reads as it did. -/
def summBackUptoRow : OpenClaim := { program := "ytgionjiabklccaagreatdoor", sum := "c02fa092e0e9e6e06e83135b60d708522586145b54438191894547e86614aa2f", func := "hygrometer/hyglaw15.SummBack", spec := "summBack", inPlace := ["internal/abi.NoEscape", "internal/reflectlite.ValueOf", "(internal/reflectlite.Value).Type", "(internal/reflectlite.Value).IsNil", "internal/reflectlite.TypeOf", "(internal/reflectlite.Value).Elem", "(internal/reflectlite.Value).Set", "internal/bytealg.MakeNoZero"], unfollowed := true, recurses := true, named := ["errors.errorType"], loops := true, apart := false, laid := [("errors.errorType", laid_errors_errorType)], narrowed := true }
def SummBackUptoSaid : Prop := summBackUptoRow.holds Tryz.pinned (OpenSpec.upto summBackSpec)

/-- 'hyglaw15.SummTwice', WHERE WHAT IT READS IS OF BULK AT MOST 1048576: true; the input reads as it did. -/
def summTwiceUptoRow : OpenClaim := { program := "ytgionjiabklccaagreatdoor", sum := "c02fa092e0e9e6e06e83135b60d708522586145b54438191894547e86614aa2f", func := "hygrometer/hyglaw15.SummTwice", spec := "summTwice", inPlace := ["internal/abi.NoEscape", "internal/reflectlite.ValueOf", "(internal/reflectlite.Value).Type", "(internal/reflectlite.Value).IsNil", "internal/reflectlite.TypeOf", "(internal/reflectlite.Value).Elem", "(internal/reflectlite.Value).Set", "internal/bytealg.MakeNoZero"], unfollowed := true, recurses := true, named := ["errors.errorType"], apart := false, laid := [("errors.errorType", laid_errors_errorType)], narrowed := true }
def SummTwiceUptoSaid : Prop := summTwiceUptoRow.holds Tryz.pinned (OpenSpec.upto summTwiceSpec)

/-- 'hyglaw15.SummOthers', WHERE WHAT IT READS IS OF BULK AT MOST 1048576: true; the input reads as it did. -/
def summOthersUptoRow : OpenClaim := { program := "ytgionjiabklccaagreatdoor", sum := "c02fa092e0e9e6e06e83135b60d708522586145b54438191894547e86614aa2f", func := "hygrometer/hyglaw15.SummOthers", spec := "summOthers", inPlace := ["internal/abi.NoEscape", "internal/reflectlite.ValueOf", "(internal/reflectlite.Value).Type", "(internal/reflectlite.Value).IsNil", "internal/reflectlite.TypeOf", "(internal/reflectlite.Value).Elem", "(internal/reflectlite.Value).Set", "internal/bytealg.MakeNoZero"], unfollowed := true, recurses := true, named := ["errors.errorType"], apart := false, laid := [("errors.errorType", laid_errors_errorType)], narrowed := true }
def SummOthersUptoSaid : Prop := summOthersUptoRow.holds Tryz.pinned (OpenSpec.upto summOthersSpec)

end Rows
end Go.Proofs.YtgionjiabklccaaGreatDoor
