/-
  NARROWER THAN 'FOR EVERY INPUT', by the rows' own cells (each row's printed sentence says how): ValueReads: laid · ValueSame: loops, laid · ValueTwice: laid · ValueLast: laid · ValueHalves: loops, laid · ValueBack: loops, laid · ValueWrites: loops, laid.
  DERIVED. THE GIVEN ROWS OF THIS SEAT. 7 by the template 'for every input the law returns true; each argument reads behind the call as it read before'; 0 by the template 'total and deterministic' (their statements: YtnaifpmeejbanaaGreatDoorTotals.lean).
  GIVEN WITH THE SEED: the statements are not yours to turn. If you find one false, say at which input.
  Laid BY PROGRAM, IN A SANDBOX (cutbox-rows.mjs): the forced cells as the released guide's own fill.sh prints them over the translation 36026e3748f02357… (all of the seat's roots in one cut). By AI agents, Wed Nov 11 2026. No macro, syntax, notation, axiom, sorry.
-/
import Derived.Test.YtnaifpmeejbanaaGreatDoorChecked
import GoSem.Claim
import GoSem.ClaimJoined
import GoSem.ClaimMapViews
import Derived.JoinedTies
import Derived.KernelRfl
namespace Go.Proofs.YtnaifpmeejbanaaGreatDoor
/- THE CELL 'sum', in the pinned program and in every row, IS THE sha256 OF THE DUMP (.gsa) THAT YtnaifpmeejbanaaGreatDoorProg.lean LOADS. Nothing in Lean hashes anything: it is a label: what it is worth is what the hold of that sum in a sandbox is worth. -/
noncomputable def Tryz.pinned : Pinned := { name := "ytnaifpmeejbanaagreatdoor", sum := "36026e3748f023579af7f8a9c6ae5ca16ec9637a530c4432bfc6fe78d9d5054b", checked := Tryz.checked }
namespace Rows
def none {H : Type} : Left H := { results := [], args := [] }

/- WHAT THE LISTED PACKAGE-LEVEL VARIABLES READ AS WHEN THE CALL BEGINS. Each datum BY PROGRAM (the guide's laid-datum.mjs) off the statement by which the dump's own 'gosem.cut.vars' lays the variable. In a bare row this is a premise. The card (YtnaifpmeejbanaaGreatDoorCards.lean) ties it to the program's text. -/
def laid_errors_errorType {H : Type} : DataW H := .iface "internal/reflectlite.rtype" (.agg [.ptr (.lit (.string [101, 114, 114, 111, 114]))])

/-- 'hyglaw8.ValueReads': WHATEVER THE INPUT: true; the input reads as it did. -/
def valueReadsSpec : ChangeSpec := { name := "valueReads", fn := fun _ => fun
  | [d1, d2] => { results := [.lit (.bool true)], args := [d1, d2] }
  | _ => none }
def valueReadsRow : OpenClaim := { program := "ytnaifpmeejbanaagreatdoor", sum := "36026e3748f023579af7f8a9c6ae5ca16ec9637a530c4432bfc6fe78d9d5054b", func := "hygrometer/hyglaw8.ValueReads", spec := "valueReads", inPlace := ["internal/abi.NoEscape", "internal/reflectlite.ValueOf", "(internal/reflectlite.Value).Type", "(internal/reflectlite.Value).IsNil", "internal/reflectlite.TypeOf", "(internal/reflectlite.Value).Elem", "(internal/reflectlite.Value).Set", "internal/bytealg.MakeNoZero"], unfollowed := true, recurses := true, named := ["errors.errorType"], apart := false, laid := [("errors.errorType", laid_errors_errorType)] }
def ValueReadsSaid : Prop := valueReadsRow.holds Tryz.pinned (OpenSpec.ofChange valueReadsSpec)

/-- ITS FALSE NEIGHBOUR: 'it returns false'. Refute it at one input. -/
def valueReadsWrong : ChangeSpec := { name := "valueReads", fn := fun _ => fun
  | [d1, d2] => { results := [.lit (.bool false)], args := [d1, d2] }
  | _ => none }
def ValueReadsWrongFalsely : Prop := valueReadsRow.holds Tryz.pinned (OpenSpec.ofChange valueReadsWrong)

/-- 'hyglaw8.ValueSame': WHATEVER THE INPUT: true; the input reads as it did. -/
def valueSameSpec : ChangeSpec := { name := "valueSame", fn := fun _ => fun
  | [d1, d2, d3, d4] => { results := [.lit (.bool true)], args := [d1, d2, d3, d4] }
  | _ => none }
def valueSameRow : OpenClaim := { program := "ytnaifpmeejbanaagreatdoor", sum := "36026e3748f023579af7f8a9c6ae5ca16ec9637a530c4432bfc6fe78d9d5054b", func := "hygrometer/hyglaw8.ValueSame", spec := "valueSame", inPlace := ["internal/abi.NoEscape", "internal/reflectlite.ValueOf", "(internal/reflectlite.Value).Type", "(internal/reflectlite.Value).IsNil", "internal/reflectlite.TypeOf", "(internal/reflectlite.Value).Elem", "(internal/reflectlite.Value).Set", "internal/bytealg.MakeNoZero"], unfollowed := true, recurses := true, named := ["errors.errorType"], loops := true, apart := false, laid := [("errors.errorType", laid_errors_errorType)] }
def ValueSameSaid : Prop := valueSameRow.holds Tryz.pinned (OpenSpec.ofChange valueSameSpec)

/-- ITS FALSE NEIGHBOUR: 'it returns false'. Refute it at one input. -/
def valueSameWrong : ChangeSpec := { name := "valueSame", fn := fun _ => fun
  | [d1, d2, d3, d4] => { results := [.lit (.bool false)], args := [d1, d2, d3, d4] }
  | _ => none }
def ValueSameWrongFalsely : Prop := valueSameRow.holds Tryz.pinned (OpenSpec.ofChange valueSameWrong)

/-- 'hyglaw8.ValueTwice': WHATEVER THE INPUT: true; the input reads as it did. -/
def valueTwiceSpec : ChangeSpec := { name := "valueTwice", fn := fun _ => fun
  | [d1, d2] => { results := [.lit (.bool true)], args := [d1, d2] }
  | _ => none }
def valueTwiceRow : OpenClaim := { program := "ytnaifpmeejbanaagreatdoor", sum := "36026e3748f023579af7f8a9c6ae5ca16ec9637a530c4432bfc6fe78d9d5054b", func := "hygrometer/hyglaw8.ValueTwice", spec := "valueTwice", inPlace := ["internal/abi.NoEscape", "internal/reflectlite.ValueOf", "(internal/reflectlite.Value).Type", "(internal/reflectlite.Value).IsNil", "internal/reflectlite.TypeOf", "(internal/reflectlite.Value).Elem", "(internal/reflectlite.Value).Set", "internal/bytealg.MakeNoZero"], unfollowed := true, recurses := true, named := ["errors.errorType"], apart := false, laid := [("errors.errorType", laid_errors_errorType)] }
def ValueTwiceSaid : Prop := valueTwiceRow.holds Tryz.pinned (OpenSpec.ofChange valueTwiceSpec)

/-- ITS FALSE NEIGHBOUR: 'it returns false'. Refute it at one input. -/
def valueTwiceWrong : ChangeSpec := { name := "valueTwice", fn := fun _ => fun
  | [d1, d2] => { results := [.lit (.bool false)], args := [d1, d2] }
  | _ => none }
def ValueTwiceWrongFalsely : Prop := valueTwiceRow.holds Tryz.pinned (OpenSpec.ofChange valueTwiceWrong)

/-- 'hyglaw8.ValueLast': WHATEVER THE INPUT: true; the input reads as it did. -/
def valueLastSpec : ChangeSpec := { name := "valueLast", fn := fun _ => fun
  | [d1, d2, d3] => { results := [.lit (.bool true)], args := [d1, d2, d3] }
  | _ => none }
def valueLastRow : OpenClaim := { program := "ytnaifpmeejbanaagreatdoor", sum := "36026e3748f023579af7f8a9c6ae5ca16ec9637a530c4432bfc6fe78d9d5054b", func := "hygrometer/hyglaw8.ValueLast", spec := "valueLast", inPlace := ["internal/abi.NoEscape", "internal/reflectlite.ValueOf", "(internal/reflectlite.Value).Type", "(internal/reflectlite.Value).IsNil", "internal/reflectlite.TypeOf", "(internal/reflectlite.Value).Elem", "(internal/reflectlite.Value).Set", "internal/bytealg.MakeNoZero"], unfollowed := true, recurses := true, named := ["errors.errorType"], apart := false, laid := [("errors.errorType", laid_errors_errorType)] }
def ValueLastSaid : Prop := valueLastRow.holds Tryz.pinned (OpenSpec.ofChange valueLastSpec)

/-- ITS FALSE NEIGHBOUR: 'it returns false'. Refute it at one input. -/
def valueLastWrong : ChangeSpec := { name := "valueLast", fn := fun _ => fun
  | [d1, d2, d3] => { results := [.lit (.bool false)], args := [d1, d2, d3] }
  | _ => none }
def ValueLastWrongFalsely : Prop := valueLastRow.holds Tryz.pinned (OpenSpec.ofChange valueLastWrong)

/-- 'hyglaw8.ValueHalves': WHATEVER THE INPUT: true; the input reads as it did. -/
def valueHalvesSpec : ChangeSpec := { name := "valueHalves", fn := fun _ => fun
  | [d1, d2] => { results := [.lit (.bool true)], args := [d1, d2] }
  | _ => none }
def valueHalvesRow : OpenClaim := { program := "ytnaifpmeejbanaagreatdoor", sum := "36026e3748f023579af7f8a9c6ae5ca16ec9637a530c4432bfc6fe78d9d5054b", func := "hygrometer/hyglaw8.ValueHalves", spec := "valueHalves", inPlace := ["internal/abi.NoEscape", "internal/reflectlite.ValueOf", "(internal/reflectlite.Value).Type", "(internal/reflectlite.Value).IsNil", "internal/reflectlite.TypeOf", "(internal/reflectlite.Value).Elem", "(internal/reflectlite.Value).Set", "internal/bytealg.MakeNoZero"], unfollowed := true, recurses := true, named := ["errors.errorType"], loops := true, apart := false, laid := [("errors.errorType", laid_errors_errorType)] }
def ValueHalvesSaid : Prop := valueHalvesRow.holds Tryz.pinned (OpenSpec.ofChange valueHalvesSpec)

/-- ITS FALSE NEIGHBOUR: 'it returns false'. Refute it at one input. -/
def valueHalvesWrong : ChangeSpec := { name := "valueHalves", fn := fun _ => fun
  | [d1, d2] => { results := [.lit (.bool false)], args := [d1, d2] }
  | _ => none }
def ValueHalvesWrongFalsely : Prop := valueHalvesRow.holds Tryz.pinned (OpenSpec.ofChange valueHalvesWrong)

/-- 'hyglaw8.ValueBack': WHATEVER THE INPUT: true; the input reads as it did. -/
def valueBackSpec : ChangeSpec := { name := "valueBack", fn := fun _ => fun
  | [d1, d2, d3, d4] => { results := [.lit (.bool true)], args := [d1, d2, d3, d4] }
  | _ => none }
def valueBackRow : OpenClaim := { program := "ytnaifpmeejbanaagreatdoor", sum := "36026e3748f023579af7f8a9c6ae5ca16ec9637a530c4432bfc6fe78d9d5054b", func := "hygrometer/hyglaw8.ValueBack", spec := "valueBack", inPlace := ["internal/abi.NoEscape", "internal/reflectlite.ValueOf", "(internal/reflectlite.Value).Type", "(internal/reflectlite.Value).IsNil", "internal/reflectlite.TypeOf", "(internal/reflectlite.Value).Elem", "(internal/reflectlite.Value).Set", "internal/bytealg.MakeNoZero"], unfollowed := true, recurses := true, named := ["errors.errorType"], loops := true, apart := false, laid := [("errors.errorType", laid_errors_errorType)] }
def ValueBackSaid : Prop := valueBackRow.holds Tryz.pinned (OpenSpec.ofChange valueBackSpec)

/-- ITS FALSE NEIGHBOUR: 'it returns false'. Refute it at one input. -/
def valueBackWrong : ChangeSpec := { name := "valueBack", fn := fun _ => fun
  | [d1, d2, d3, d4] => { results := [.lit (.bool false)], args := [d1, d2, d3, d4] }
  | _ => none }
def ValueBackWrongFalsely : Prop := valueBackRow.holds Tryz.pinned (OpenSpec.ofChange valueBackWrong)

/-- 'hyglaw8.ValueWrites': WHATEVER THE INPUT: true; the input reads as it did. -/
def valueWritesSpec : ChangeSpec := { name := "valueWrites", fn := fun _ => fun
  | [d1, d2, d3] => { results := [.lit (.bool true)], args := [d1, d2, d3] }
  | _ => none }
def valueWritesRow : OpenClaim := { program := "ytnaifpmeejbanaagreatdoor", sum := "36026e3748f023579af7f8a9c6ae5ca16ec9637a530c4432bfc6fe78d9d5054b", func := "hygrometer/hyglaw8.ValueWrites", spec := "valueWrites", inPlace := ["internal/abi.NoEscape", "internal/reflectlite.ValueOf", "(internal/reflectlite.Value).Type", "(internal/reflectlite.Value).IsNil", "internal/reflectlite.TypeOf", "(internal/reflectlite.Value).Elem", "(internal/reflectlite.Value).Set", "internal/bytealg.MakeNoZero"], unfollowed := true, recurses := true, named := ["errors.errorType"], loops := true, apart := false, laid := [("errors.errorType", laid_errors_errorType)] }
def ValueWritesSaid : Prop := valueWritesRow.holds Tryz.pinned (OpenSpec.ofChange valueWritesSpec)

/-- ITS FALSE NEIGHBOUR: 'it returns false'. Refute it at one input. -/
def valueWritesWrong : ChangeSpec := { name := "valueWrites", fn := fun _ => fun
  | [d1, d2, d3] => { results := [.lit (.bool false)], args := [d1, d2, d3] }
  | _ => none }
def ValueWritesWrongFalsely : Prop := valueWritesRow.holds Tryz.pinned (OpenSpec.ofChange valueWritesWrong)

/- THE SECOND FORM. 'bulk': how many values and letters a reading holds, each counted each time it is reached (what is shared counts as often as it is met; a slice's spare places count too). A statement '..UptoSaid' is the law's where the arguments, and the package variables that the reading takes, are together of bulk at most 1048576: NARROWER than '..Said'. Prove '..Said' where nothing that the law and all that it calls make is longer than what came in: it says more and counts as full. Else prove '..UptoSaid'. A law counts once. -/
mutual
def uptoBulk {H : Type} : DataW H → Nat
  | .lit (.string bytes) => bytes.length + 1
  | .lit _ => 1
  | .nil => 1
  | .ptr d => uptoBulk d + 1
  | .slice elems spare => uptoBulkAll elems + uptoBulkAll spare + 1
  | .agg parts => uptoBulkAll parts + 1
  | .iface _ d => uptoBulk d + 1
  | .map entries => uptoBulkEntries entries + 1
  | .held _ => 1
def uptoBulkAll {H : Type} : List (DataW H) → Nat
  | [] => 0
  | d :: r => uptoBulk d + uptoBulkAll r
def uptoBulkEntries {H : Type} : List (Lit × DataW H) → Nat
  | [] => 0
  | x :: r => uptoBulkEntry x + uptoBulkEntries r
def uptoBulkEntry {H : Type} : Lit × DataW H → Nat
  | (.string bytes, d) => bytes.length + uptoBulk d + 1
  | (_, d) => uptoBulk d + 1
 end
def uptoSmall : (H : Type) → List (DataW H) → Bool := fun _ ds => decide (uptoBulkAll ds ≤ 1048576)
def OpenSpec.upto (s : _root_.Go.ChangeSpec) : _root_.Go.OpenSpec := { _root_.Go.OpenSpec.ofChange s with cond := some uptoSmall }

/-- 'hyglaw8.ValueReads', WHERE WHAT IT READS IS OF BULK AT MOST 1048576: true; the input reads as it did. -/
def valueReadsUptoRow : OpenClaim := { program := "ytnaifpmeejbanaagreatdoor", sum := "36026e3748f023579af7f8a9c6ae5ca16ec9637a530c4432bfc6fe78d9d5054b", func := "hygrometer/hyglaw8.ValueReads", spec := "valueReads", inPlace := ["internal/abi.NoEscape", "internal/reflectlite.ValueOf", "(internal/reflectlite.Value).Type", "(internal/reflectlite.Value).IsNil", "internal/reflectlite.TypeOf", "(internal/reflectlite.Value).Elem", "(internal/reflectlite.Value).Set", "internal/bytealg.MakeNoZero"], unfollowed := true, recurses := true, named := ["errors.errorType"], apart := false, laid := [("errors.errorType", laid_errors_errorType)], narrowed := true }
def ValueReadsUptoSaid : Prop := valueReadsUptoRow.holds Tryz.pinned (OpenSpec.upto valueReadsSpec)

/-- 'hyglaw8.ValueSame', WHERE WHAT IT READS IS OF BULK AT MOST 1048576: true; the input reads as it did. -/
def valueSameUptoRow : OpenClaim := { program := "ytnaifpmeejbanaagreatdoor", sum := "36026e3748f023579af7f8a9c6ae5ca16ec9637a530c4432bfc6fe78d9d5054b", func := "hygrometer/hyglaw8.ValueSame", spec := "valueSame", inPlace := ["internal/abi.NoEscape", "internal/reflectlite.ValueOf", "(internal/reflectlite.Value).Type", "(internal/reflectlite.Value).IsNil", "internal/reflectlite.TypeOf", "(internal/reflectlite.Value).Elem", "(internal/reflectlite.Value).Set", "internal/bytealg.MakeNoZero"], unfollowed := true, recurses := true, named := ["errors.errorType"], loops := true, apart := false, laid := [("errors.errorType", laid_errors_errorType)], narrowed := true }
def ValueSameUptoSaid : Prop := valueSameUptoRow.holds Tryz.pinned (OpenSpec.upto valueSameSpec)

/-- 'hyglaw8.ValueTwice', WHERE WHAT IT READS IS OF BULK AT MOST 1048576: true; the input reads as it did. -/
def valueTwiceUptoRow : OpenClaim := { program := "ytnaifpmeejbanaagreatdoor", sum := "36026e3748f023579af7f8a9c6ae5ca16ec9637a530c4432bfc6fe78d9d5054b", func := "hygrometer/hyglaw8.ValueTwice", spec := "valueTwice", inPlace := ["internal/abi.NoEscape", "internal/reflectlite.ValueOf", "(internal/reflectlite.Value).Type", "(internal/reflectlite.Value).IsNil", "internal/reflectlite.TypeOf", "(internal/reflectlite.Value).Elem", "(internal/reflectlite.Value).Set", "internal/bytealg.MakeNoZero"], unfollowed := true, recurses := true, named := ["errors.errorType"], apart := false, laid := [("errors.errorType", laid_errors_errorType)], narrowed := true }
def ValueTwiceUptoSaid : Prop := valueTwiceUptoRow.holds Tryz.pinned (OpenSpec.upto valueTwiceSpec)

/-- 'hyglaw8.ValueLast', WHERE WHAT IT READS IS OF BULK AT MOST 1048576: true; the input reads as it did. -/
def valueLastUptoRow : OpenClaim := { program := "ytnaifpmeejbanaagreatdoor", sum := "36026e3748f023579af7f8a9c6ae5ca16ec9637a530c4432bfc6fe78d9d5054b", func := "hygrometer/hyglaw8.ValueLast", spec := "valueLast", inPlace := ["internal/abi.NoEscape", "internal/reflectlite.ValueOf", "(internal/reflectlite.Value).Type", "(internal/reflectlite.Value).IsNil", "internal/reflectlite.TypeOf", "(internal/reflectlite.Value).Elem", "(internal/reflectlite.Value).Set", "internal/bytealg.MakeNoZero"], unfollowed := true, recurses := true, named := ["errors.errorType"], apart := false, laid := [("errors.errorType", laid_errors_errorType)], narrowed := true }
def ValueLastUptoSaid : Prop := valueLastUptoRow.holds Tryz.pinned (OpenSpec.upto valueLastSpec)

/-- 'hyglaw8.ValueHalves', WHERE WHAT IT READS IS OF BULK AT MOST 1048576: true; the input reads as it did. -/
def valueHalvesUptoRow : OpenClaim := { program := "ytnaifpmeejbanaagreatdoor", sum := "36026e3748f023579af7f8a9c6ae5ca16ec9637a530c4432bfc6fe78d9d5054b", func := "hygrometer/hyglaw8.ValueHalves", spec := "valueHalves", inPlace := ["internal/abi.NoEscape", "internal/reflectlite.ValueOf", "(internal/reflectlite.Value).Type", "(internal/reflectlite.Value).IsNil", "internal/reflectlite.TypeOf", "(internal/reflectlite.Value).Elem", "(internal/reflectlite.Value).Set", "internal/bytealg.MakeNoZero"], unfollowed := true, recurses := true, named := ["errors.errorType"], loops := true, apart := false, laid := [("errors.errorType", laid_errors_errorType)], narrowed := true }
def ValueHalvesUptoSaid : Prop := valueHalvesUptoRow.holds Tryz.pinned (OpenSpec.upto valueHalvesSpec)

/-- 'hyglaw8.ValueBack', WHERE WHAT IT READS IS OF BULK AT MOST 1048576: true; the input reads as it did. -/
def valueBackUptoRow : OpenClaim := { program := "ytnaifpmeejbanaagreatdoor", sum := "36026e3748f023579af7f8a9c6ae5ca16ec9637a530c4432bfc6fe78d9d5054b", func := "hygrometer/hyglaw8.ValueBack", spec := "valueBack", inPlace := ["internal/abi.NoEscape", "internal/reflectlite.ValueOf", "(internal/reflectlite.Value).Type", "(internal/reflectlite.Value).IsNil", "internal/reflectlite.TypeOf", "(internal/reflectlite.Value).Elem", "(internal/reflectlite.Value).Set", "internal/bytealg.MakeNoZero"], unfollowed := true, recurses := true, named := ["errors.errorType"], loops := true, apart := false, laid := [("errors.errorType", laid_errors_errorType)], narrowed := true }
def ValueBackUptoSaid : Prop := valueBackUptoRow.holds Tryz.pinned (OpenSpec.upto valueBackSpec)

/-- 'hyglaw8.ValueWrites', WHERE WHAT IT READS IS OF BULK AT MOST 1048576: true; the input reads as it did. -/
def valueWritesUptoRow : OpenClaim := { program := "ytnaifpmeejbanaagreatdoor", sum := "36026e3748f023579af7f8a9c6ae5ca16ec9637a530c4432bfc6fe78d9d5054b", func := "hygrometer/hyglaw8.ValueWrites", spec := "valueWrites", inPlace := ["internal/abi.NoEscape", "internal/reflectlite.ValueOf", "(internal/reflectlite.Value).Type", "(internal/reflectlite.Value).IsNil", "internal/reflectlite.TypeOf", "(internal/reflectlite.Value).Elem", "(internal/reflectlite.Value).Set", "internal/bytealg.MakeNoZero"], unfollowed := true, recurses := true, named := ["errors.errorType"], loops := true, apart := false, laid := [("errors.errorType", laid_errors_errorType)], narrowed := true }
def ValueWritesUptoSaid : Prop := valueWritesUptoRow.holds Tryz.pinned (OpenSpec.upto valueWritesSpec)

end Rows
end Go.Proofs.YtnaifpmeejbanaaGreatDoor
