/-
  DERIVED. GIVEN WITH THE SEED: THE CARDS: each row of YtceklkdnejcanaaGreatDoorRows.lean that lists a variable, with what it lists TIED to the program's text (the seventh form; the later family's looks); each row that meets fmt, with fmt's text TOLD by the authors' own Lean function (tested against real Go, not proved from fmt's source: count such statements apart). THE CARD IS WHAT COUNTS. Prove the row's statement (the work); the ties are given (YtceklkdnejcanaaGreatDoorTie.lean); close each card by the builder's one call (the guide's Derived/Test/ToyasCard.lean, 'card_holds'). Laid BY PROGRAM, IN A SANDBOX (cutbox-door.mjs). By AI agents, Wed Nov 11 2026. No macro, syntax, notation, axiom, sorry.
-/
import Derived.Test.YtceklkdnejcanaaGreatDoorRows
import GoSem.ClaimSeven
namespace Go.Proofs.YtceklkdnejcanaaGreatDoor
namespace Rows

/-- THE TIED CARD OF 'hyglaw10.ResourceSame'. -/
def resourceSameCard : Claim7 := { stood := { row := resourceSameRow, standIns := [], harness := (true, "8675cd15e58885dd82e0d1c8ab52706ce57f806b47bf0ae5218e72f943d68231"), looks := true }, kinds := [], alts := [], laidByText := true, laidKinds := [.handle], laidTests := true, laidLooks := .later }
def ResourceSameCardSaid : Prop := Claim7.holds Tryz.pinned (.plain (OpenSpec.ofChange resourceSameSpec)) resourceSameCard

/-- THE TIED CARD OF 'hyglaw10.ResourceJoins'. -/
def resourceJoinsCard : Claim7 := { stood := { row := resourceJoinsRow, standIns := [], harness := (true, "8675cd15e58885dd82e0d1c8ab52706ce57f806b47bf0ae5218e72f943d68231"), looks := true }, kinds := [], alts := [], laidByText := true, laidKinds := [.handle], laidTests := true, laidLooks := .later }
def ResourceJoinsCardSaid : Prop := Claim7.holds Tryz.pinned (.plain (OpenSpec.ofChange resourceJoinsSpec)) resourceJoinsCard

/-- THE TIED CARD OF 'hyglaw10.ResourceBack'. -/
def resourceBackCard : Claim7 := { stood := { row := resourceBackRow, standIns := [], harness := (true, "8675cd15e58885dd82e0d1c8ab52706ce57f806b47bf0ae5218e72f943d68231"), looks := true }, kinds := [], alts := [], laidByText := true, laidKinds := [.handle], laidTests := true, laidLooks := .later }
def ResourceBackCardSaid : Prop := Claim7.holds Tryz.pinned (.plain (OpenSpec.ofChange resourceBackSpec)) resourceBackCard

/-- THE TIED CARD OF 'hyglaw10.ResourceTwice'. -/
def resourceTwiceCard : Claim7 := { stood := { row := resourceTwiceRow, standIns := [], harness := (true, "8675cd15e58885dd82e0d1c8ab52706ce57f806b47bf0ae5218e72f943d68231"), looks := true }, kinds := [], alts := [], laidByText := true, laidKinds := [.handle], laidTests := true, laidLooks := .later }
def ResourceTwiceCardSaid : Prop := Claim7.holds Tryz.pinned (.plain (OpenSpec.ofChange resourceTwiceSpec)) resourceTwiceCard

/-- THE TIED CARD OF 'hyglaw10.ResourceOthers'. -/
def resourceOthersCard : Claim7 := { stood := { row := resourceOthersRow, standIns := [], harness := (true, "8675cd15e58885dd82e0d1c8ab52706ce57f806b47bf0ae5218e72f943d68231"), looks := true }, kinds := [], alts := [], laidByText := true, laidKinds := [.handle], laidTests := true, laidLooks := .later }
def ResourceOthersCardSaid : Prop := Claim7.holds Tryz.pinned (.plain (OpenSpec.ofChange resourceOthersSpec)) resourceOthersCard

/-- THE TIED CARD OF 'hyglaw10.ResourceWrites'. -/
def resourceWritesCard : Claim7 := { stood := { row := resourceWritesRow, standIns := [], harness := (true, "8675cd15e58885dd82e0d1c8ab52706ce57f806b47bf0ae5218e72f943d68231"), looks := true }, kinds := [], alts := [], laidByText := true, laidKinds := [.handle], laidTests := true, laidLooks := .later }
def ResourceWritesCardSaid : Prop := Claim7.holds Tryz.pinned (.plain (OpenSpec.ofChange resourceWritesSpec)) resourceWritesCard

/-- THE TIED CARD OF 'hyglaw10.ResourceReads'. -/
def resourceReadsCard : Claim7 := { stood := { row := resourceReadsRow, standIns := [], harness := (true, "8675cd15e58885dd82e0d1c8ab52706ce57f806b47bf0ae5218e72f943d68231"), looks := true }, kinds := [], alts := [], laidByText := true, laidKinds := [.handle], laidTests := true, laidLooks := .later }
def ResourceReadsCardSaid : Prop := Claim7.holds Tryz.pinned (.plain (OpenSpec.ofChange resourceReadsSpec)) resourceReadsCard

/-- THE TIED CARD OF 'hyglaw10.ResourceDeep'. -/
def resourceDeepCard : Claim7 := { stood := { row := resourceDeepRow, standIns := [], harness := (true, "8675cd15e58885dd82e0d1c8ab52706ce57f806b47bf0ae5218e72f943d68231"), looks := true }, kinds := [], alts := [], laidByText := true, laidKinds := [.handle], laidTests := true, laidLooks := .later }
def ResourceDeepCardSaid : Prop := Claim7.holds Tryz.pinned (.plain (OpenSpec.ofChange resourceDeepSpec)) resourceDeepCard

/-- THE SECOND FORM's CARD OF 'hyglaw10.ResourceSame'. -/
def resourceSameUptoCard : Claim7 := { stood := { row := resourceSameUptoRow, standIns := [], harness := (true, "8675cd15e58885dd82e0d1c8ab52706ce57f806b47bf0ae5218e72f943d68231"), looks := true }, kinds := [], alts := [], laidByText := true, laidKinds := [.handle], laidTests := true, laidLooks := .later }
def ResourceSameUptoCardSaid : Prop := Claim7.holds Tryz.pinned (.plain (OpenSpec.upto resourceSameSpec)) resourceSameUptoCard

/-- THE SECOND FORM's CARD OF 'hyglaw10.ResourceJoins'. -/
def resourceJoinsUptoCard : Claim7 := { stood := { row := resourceJoinsUptoRow, standIns := [], harness := (true, "8675cd15e58885dd82e0d1c8ab52706ce57f806b47bf0ae5218e72f943d68231"), looks := true }, kinds := [], alts := [], laidByText := true, laidKinds := [.handle], laidTests := true, laidLooks := .later }
def ResourceJoinsUptoCardSaid : Prop := Claim7.holds Tryz.pinned (.plain (OpenSpec.upto resourceJoinsSpec)) resourceJoinsUptoCard

/-- THE SECOND FORM's CARD OF 'hyglaw10.ResourceBack'. -/
def resourceBackUptoCard : Claim7 := { stood := { row := resourceBackUptoRow, standIns := [], harness := (true, "8675cd15e58885dd82e0d1c8ab52706ce57f806b47bf0ae5218e72f943d68231"), looks := true }, kinds := [], alts := [], laidByText := true, laidKinds := [.handle], laidTests := true, laidLooks := .later }
def ResourceBackUptoCardSaid : Prop := Claim7.holds Tryz.pinned (.plain (OpenSpec.upto resourceBackSpec)) resourceBackUptoCard

/-- THE SECOND FORM's CARD OF 'hyglaw10.ResourceTwice'. -/
def resourceTwiceUptoCard : Claim7 := { stood := { row := resourceTwiceUptoRow, standIns := [], harness := (true, "8675cd15e58885dd82e0d1c8ab52706ce57f806b47bf0ae5218e72f943d68231"), looks := true }, kinds := [], alts := [], laidByText := true, laidKinds := [.handle], laidTests := true, laidLooks := .later }
def ResourceTwiceUptoCardSaid : Prop := Claim7.holds Tryz.pinned (.plain (OpenSpec.upto resourceTwiceSpec)) resourceTwiceUptoCard

/-- THE SECOND FORM's CARD OF 'hyglaw10.ResourceOthers'. -/
def resourceOthersUptoCard : Claim7 := { stood := { row := resourceOthersUptoRow, standIns := [], harness := (true, "8675cd15e58885dd82e0d1c8ab52706ce57f806b47bf0ae5218e72f943d68231"), looks := true }, kinds := [], alts := [], laidByText := true, laidKinds := [.handle], laidTests := true, laidLooks := .later }
def ResourceOthersUptoCardSaid : Prop := Claim7.holds Tryz.pinned (.plain (OpenSpec.upto resourceOthersSpec)) resourceOthersUptoCard

/-- THE SECOND FORM's CARD OF 'hyglaw10.ResourceWrites'. -/
def resourceWritesUptoCard : Claim7 := { stood := { row := resourceWritesUptoRow, standIns := [], harness := (true, "8675cd15e58885dd82e0d1c8ab52706ce57f806b47bf0ae5218e72f943d68231"), looks := true }, kinds := [], alts := [], laidByText := true, laidKinds := [.handle], laidTests := true, laidLooks := .later }
def ResourceWritesUptoCardSaid : Prop := Claim7.holds Tryz.pinned (.plain (OpenSpec.upto resourceWritesSpec)) resourceWritesUptoCard

/-- THE SECOND FORM's CARD OF 'hyglaw10.ResourceReads'. -/
def resourceReadsUptoCard : Claim7 := { stood := { row := resourceReadsUptoRow, standIns := [], harness := (true, "8675cd15e58885dd82e0d1c8ab52706ce57f806b47bf0ae5218e72f943d68231"), looks := true }, kinds := [], alts := [], laidByText := true, laidKinds := [.handle], laidTests := true, laidLooks := .later }
def ResourceReadsUptoCardSaid : Prop := Claim7.holds Tryz.pinned (.plain (OpenSpec.upto resourceReadsSpec)) resourceReadsUptoCard

/-- THE SECOND FORM's CARD OF 'hyglaw10.ResourceDeep'. -/
def resourceDeepUptoCard : Claim7 := { stood := { row := resourceDeepUptoRow, standIns := [], harness := (true, "8675cd15e58885dd82e0d1c8ab52706ce57f806b47bf0ae5218e72f943d68231"), looks := true }, kinds := [], alts := [], laidByText := true, laidKinds := [.handle], laidTests := true, laidLooks := .later }
def ResourceDeepUptoCardSaid : Prop := Claim7.holds Tryz.pinned (.plain (OpenSpec.upto resourceDeepSpec)) resourceDeepUptoCard
end Rows
end Go.Proofs.YtceklkdnejcanaaGreatDoor
