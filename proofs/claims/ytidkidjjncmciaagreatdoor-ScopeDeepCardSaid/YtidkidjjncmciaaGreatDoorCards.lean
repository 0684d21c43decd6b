/-
  DERIVED. GIVEN WITH THE SEED: THE CARDS: each row of YtidkidjjncmciaaGreatDoorRows.lean that lists a variable, with what it lists TIED to the program's text (the seventh form; the later family's looks); each row that meets fmt, with fmt's text TOLD by the authors' own Lean function (tested against real Go, not proved from fmt's source: count such statements apart). THE CARD IS WHAT COUNTS. Prove the row's statement (the work); the ties are given (YtidkidjjncmciaaGreatDoorTie.lean); close each card by the builder's one call (the guide's Derived/Test/ToyasCard.lean, 'card_holds'). Laid BY PROGRAM, IN A SANDBOX (cutbox-door.mjs). By AI agents, Wed Nov 11 2026. No macro, syntax, notation, axiom, sorry.
-/
import Derived.Test.YtidkidjjncmciaaGreatDoorRows
import GoSem.ClaimSeven
namespace Go.Proofs.YtidkidjjncmciaaGreatDoor
namespace Rows

/-- THE TIED CARD OF 'hyglaw10.ScopeJoins'. -/
def scopeJoinsCard : Claim7 := { stood := { row := scopeJoinsRow, standIns := [], harness := (true, "d2c203ffe7d1187833f6243fc866a8ee0eac79b591bb97d237391147a90cc075"), looks := true }, kinds := [], alts := [], laidByText := true, laidKinds := [.handle], laidTests := true, laidLooks := .later }
def ScopeJoinsCardSaid : Prop := Claim7.holds Tryz.pinned (.plain (OpenSpec.ofChange scopeJoinsSpec)) scopeJoinsCard

/-- THE TIED CARD OF 'hyglaw10.ScopeSame'. -/
def scopeSameCard : Claim7 := { stood := { row := scopeSameRow, standIns := [], harness := (true, "d2c203ffe7d1187833f6243fc866a8ee0eac79b591bb97d237391147a90cc075"), looks := true }, kinds := [], alts := [], laidByText := true, laidKinds := [.handle], laidTests := true, laidLooks := .later }
def ScopeSameCardSaid : Prop := Claim7.holds Tryz.pinned (.plain (OpenSpec.ofChange scopeSameSpec)) scopeSameCard

/-- THE TIED CARD OF 'hyglaw10.ScopeBack'. -/
def scopeBackCard : Claim7 := { stood := { row := scopeBackRow, standIns := [], harness := (true, "d2c203ffe7d1187833f6243fc866a8ee0eac79b591bb97d237391147a90cc075"), looks := true }, kinds := [], alts := [], laidByText := true, laidKinds := [.handle], laidTests := true, laidLooks := .later }
def ScopeBackCardSaid : Prop := Claim7.holds Tryz.pinned (.plain (OpenSpec.ofChange scopeBackSpec)) scopeBackCard

/-- THE TIED CARD OF 'hyglaw10.ScopeTwice'. -/
def scopeTwiceCard : Claim7 := { stood := { row := scopeTwiceRow, standIns := [], harness := (true, "d2c203ffe7d1187833f6243fc866a8ee0eac79b591bb97d237391147a90cc075"), looks := true }, kinds := [], alts := [], laidByText := true, laidKinds := [.handle], laidTests := true, laidLooks := .later }
def ScopeTwiceCardSaid : Prop := Claim7.holds Tryz.pinned (.plain (OpenSpec.ofChange scopeTwiceSpec)) scopeTwiceCard

/-- THE TIED CARD OF 'hyglaw10.ScopeOthers'. -/
def scopeOthersCard : Claim7 := { stood := { row := scopeOthersRow, standIns := [], harness := (true, "d2c203ffe7d1187833f6243fc866a8ee0eac79b591bb97d237391147a90cc075"), looks := true }, kinds := [], alts := [], laidByText := true, laidKinds := [.handle], laidTests := true, laidLooks := .later }
def ScopeOthersCardSaid : Prop := Claim7.holds Tryz.pinned (.plain (OpenSpec.ofChange scopeOthersSpec)) scopeOthersCard

/-- THE TIED CARD OF 'hyglaw10.ScopeReads'. -/
def scopeReadsCard : Claim7 := { stood := { row := scopeReadsRow, standIns := [], harness := (true, "d2c203ffe7d1187833f6243fc866a8ee0eac79b591bb97d237391147a90cc075"), looks := true }, kinds := [], alts := [], laidByText := true, laidKinds := [.handle], laidTests := true, laidLooks := .later }
def ScopeReadsCardSaid : Prop := Claim7.holds Tryz.pinned (.plain (OpenSpec.ofChange scopeReadsSpec)) scopeReadsCard

/-- THE TIED CARD OF 'hyglaw10.ScopeDeep'. -/
def scopeDeepCard : Claim7 := { stood := { row := scopeDeepRow, standIns := [], harness := (true, "d2c203ffe7d1187833f6243fc866a8ee0eac79b591bb97d237391147a90cc075"), looks := true }, kinds := [], alts := [], laidByText := true, laidKinds := [.handle], laidTests := true, laidLooks := .later }
def ScopeDeepCardSaid : Prop := Claim7.holds Tryz.pinned (.plain (OpenSpec.ofChange scopeDeepSpec)) scopeDeepCard

/-- THE TIED CARD OF 'hyglaw10.ScopeWrites'. -/
def scopeWritesCard : Claim7 := { stood := { row := scopeWritesRow, standIns := [], harness := (true, "d2c203ffe7d1187833f6243fc866a8ee0eac79b591bb97d237391147a90cc075"), looks := true }, kinds := [], alts := [], laidByText := true, laidKinds := [.handle], laidTests := true, laidLooks := .later }
def ScopeWritesCardSaid : Prop := Claim7.holds Tryz.pinned (.plain (OpenSpec.ofChange scopeWritesSpec)) scopeWritesCard

/-- THE SECOND FORM's CARD OF 'hyglaw10.ScopeJoins'. -/
def scopeJoinsUptoCard : Claim7 := { stood := { row := scopeJoinsUptoRow, standIns := [], harness := (true, "d2c203ffe7d1187833f6243fc866a8ee0eac79b591bb97d237391147a90cc075"), looks := true }, kinds := [], alts := [], laidByText := true, laidKinds := [.handle], laidTests := true, laidLooks := .later }
def ScopeJoinsUptoCardSaid : Prop := Claim7.holds Tryz.pinned (.plain (OpenSpec.upto scopeJoinsSpec)) scopeJoinsUptoCard

/-- THE SECOND FORM's CARD OF 'hyglaw10.ScopeSame'. -/
def scopeSameUptoCard : Claim7 := { stood := { row := scopeSameUptoRow, standIns := [], harness := (true, "d2c203ffe7d1187833f6243fc866a8ee0eac79b591bb97d237391147a90cc075"), looks := true }, kinds := [], alts := [], laidByText := true, laidKinds := [.handle], laidTests := true, laidLooks := .later }
def ScopeSameUptoCardSaid : Prop := Claim7.holds Tryz.pinned (.plain (OpenSpec.upto scopeSameSpec)) scopeSameUptoCard

/-- THE SECOND FORM's CARD OF 'hyglaw10.ScopeBack'. -/
def scopeBackUptoCard : Claim7 := { stood := { row := scopeBackUptoRow, standIns := [], harness := (true, "d2c203ffe7d1187833f6243fc866a8ee0eac79b591bb97d237391147a90cc075"), looks := true }, kinds := [], alts := [], laidByText := true, laidKinds := [.handle], laidTests := true, laidLooks := .later }
def ScopeBackUptoCardSaid : Prop := Claim7.holds Tryz.pinned (.plain (OpenSpec.upto scopeBackSpec)) scopeBackUptoCard

/-- THE SECOND FORM's CARD OF 'hyglaw10.ScopeTwice'. -/
def scopeTwiceUptoCard : Claim7 := { stood := { row := scopeTwiceUptoRow, standIns := [], harness := (true, "d2c203ffe7d1187833f6243fc866a8ee0eac79b591bb97d237391147a90cc075"), looks := true }, kinds := [], alts := [], laidByText := true, laidKinds := [.handle], laidTests := true, laidLooks := .later }
def ScopeTwiceUptoCardSaid : Prop := Claim7.holds Tryz.pinned (.plain (OpenSpec.upto scopeTwiceSpec)) scopeTwiceUptoCard

/-- THE SECOND FORM's CARD OF 'hyglaw10.ScopeOthers'. -/
def scopeOthersUptoCard : Claim7 := { stood := { row := scopeOthersUptoRow, standIns := [], harness := (true, "d2c203ffe7d1187833f6243fc866a8ee0eac79b591bb97d237391147a90cc075"), looks := true }, kinds := [], alts := [], laidByText := true, laidKinds := [.handle], laidTests := true, laidLooks := .later }
def ScopeOthersUptoCardSaid : Prop := Claim7.holds Tryz.pinned (.plain (OpenSpec.upto scopeOthersSpec)) scopeOthersUptoCard

/-- THE SECOND FORM's CARD OF 'hyglaw10.ScopeReads'. -/
def scopeReadsUptoCard : Claim7 := { stood := { row := scopeReadsUptoRow, standIns := [], harness := (true, "d2c203ffe7d1187833f6243fc866a8ee0eac79b591bb97d237391147a90cc075"), looks := true }, kinds := [], alts := [], laidByText := true, laidKinds := [.handle], laidTests := true, laidLooks := .later }
def ScopeReadsUptoCardSaid : Prop := Claim7.holds Tryz.pinned (.plain (OpenSpec.upto scopeReadsSpec)) scopeReadsUptoCard

/-- THE SECOND FORM's CARD OF 'hyglaw10.ScopeDeep'. -/
def scopeDeepUptoCard : Claim7 := { stood := { row := scopeDeepUptoRow, standIns := [], harness := (true, "d2c203ffe7d1187833f6243fc866a8ee0eac79b591bb97d237391147a90cc075"), looks := true }, kinds := [], alts := [], laidByText := true, laidKinds := [.handle], laidTests := true, laidLooks := .later }
def ScopeDeepUptoCardSaid : Prop := Claim7.holds Tryz.pinned (.plain (OpenSpec.upto scopeDeepSpec)) scopeDeepUptoCard

/-- THE SECOND FORM's CARD OF 'hyglaw10.ScopeWrites'. -/
def scopeWritesUptoCard : Claim7 := { stood := { row := scopeWritesUptoRow, standIns := [], harness := (true, "d2c203ffe7d1187833f6243fc866a8ee0eac79b591bb97d237391147a90cc075"), looks := true }, kinds := [], alts := [], laidByText := true, laidKinds := [.handle], laidTests := true, laidLooks := .later }
def ScopeWritesUptoCardSaid : Prop := Claim7.holds Tryz.pinned (.plain (OpenSpec.upto scopeWritesSpec)) scopeWritesUptoCard
end Rows
end Go.Proofs.YtidkidjjncmciaaGreatDoor
