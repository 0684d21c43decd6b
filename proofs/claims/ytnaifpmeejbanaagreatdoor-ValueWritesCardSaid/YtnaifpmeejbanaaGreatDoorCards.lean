/-
  DERIVED. GIVEN WITH THE SEED: THE CARDS: each row of YtnaifpmeejbanaaGreatDoorRows.lean that lists a variable, with what it lists TIED to the program's text (the seventh form; the later family's looks); each row that meets fmt, with fmt's text TOLD by the authors' own Lean function (tested against real Go, not proved from fmt's source: count such statements apart). THE CARD IS WHAT COUNTS. Prove the row's statement (the work); the ties are given (YtnaifpmeejbanaaGreatDoorTie.lean); close each card by the builder's one call (the guide's Derived/Test/ToyasCard.lean, 'card_holds'). Laid BY PROGRAM, IN A SANDBOX (cutbox-door.mjs). By AI agents, Wed Nov 11 2026. No macro, syntax, notation, axiom, sorry.
-/
import Derived.Test.YtnaifpmeejbanaaGreatDoorRows
import GoSem.ClaimSeven
namespace Go.Proofs.YtnaifpmeejbanaaGreatDoor
namespace Rows

/-- THE TIED CARD OF 'hyglaw8.ValueReads'. -/
def valueReadsCard : Claim7 := { stood := { row := valueReadsRow, standIns := [], harness := (true, "76462da7ac58ffca1d1881d528bbb0475677a9f9d215d116014ac1f5ba280cdc"), looks := true }, kinds := [], alts := [], laidByText := true, laidKinds := [.handle], laidTests := true, laidLooks := .later }
def ValueReadsCardSaid : Prop := Claim7.holds Tryz.pinned (.plain (OpenSpec.ofChange valueReadsSpec)) valueReadsCard

/-- THE TIED CARD OF 'hyglaw8.ValueSame'. -/
def valueSameCard : Claim7 := { stood := { row := valueSameRow, standIns := [], harness := (true, "76462da7ac58ffca1d1881d528bbb0475677a9f9d215d116014ac1f5ba280cdc"), looks := true }, kinds := [], alts := [], laidByText := true, laidKinds := [.handle], laidTests := true, laidLooks := .later }
def ValueSameCardSaid : Prop := Claim7.holds Tryz.pinned (.plain (OpenSpec.ofChange valueSameSpec)) valueSameCard

/-- THE TIED CARD OF 'hyglaw8.ValueTwice'. -/
def valueTwiceCard : Claim7 := { stood := { row := valueTwiceRow, standIns := [], harness := (true, "76462da7ac58ffca1d1881d528bbb0475677a9f9d215d116014ac1f5ba280cdc"), looks := true }, kinds := [], alts := [], laidByText := true, laidKinds := [.handle], laidTests := true, laidLooks := .later }
def ValueTwiceCardSaid : Prop := Claim7.holds Tryz.pinned (.plain (OpenSpec.ofChange valueTwiceSpec)) valueTwiceCard

/-- THE TIED CARD OF 'hyglaw8.ValueLast'. -/
def valueLastCard : Claim7 := { stood := { row := valueLastRow, standIns := [], harness := (true, "76462da7ac58ffca1d1881d528bbb0475677a9f9d215d116014ac1f5ba280cdc"), looks := true }, kinds := [], alts := [], laidByText := true, laidKinds := [.handle], laidTests := true, laidLooks := .later }
def ValueLastCardSaid : Prop := Claim7.holds Tryz.pinned (.plain (OpenSpec.ofChange valueLastSpec)) valueLastCard

/-- THE TIED CARD OF 'hyglaw8.ValueHalves'. -/
def valueHalvesCard : Claim7 := { stood := { row := valueHalvesRow, standIns := [], harness := (true, "76462da7ac58ffca1d1881d528bbb0475677a9f9d215d116014ac1f5ba280cdc"), looks := true }, kinds := [], alts := [], laidByText := true, laidKinds := [.handle], laidTests := true, laidLooks := .later }
def ValueHalvesCardSaid : Prop := Claim7.holds Tryz.pinned (.plain (OpenSpec.ofChange valueHalvesSpec)) valueHalvesCard

/-- THE TIED CARD OF 'hyglaw8.ValueBack'. -/
def valueBackCard : Claim7 := { stood := { row := valueBackRow, standIns := [], harness := (true, "76462da7ac58ffca1d1881d528bbb0475677a9f9d215d116014ac1f5ba280cdc"), looks := true }, kinds := [], alts := [], laidByText := true, laidKinds := [.handle], laidTests := true, laidLooks := .later }
def ValueBackCardSaid : Prop := Claim7.holds Tryz.pinned (.plain (OpenSpec.ofChange valueBackSpec)) valueBackCard

/-- THE TIED CARD OF 'hyglaw8.ValueWrites'. -/
def valueWritesCard : Claim7 := { stood := { row := valueWritesRow, standIns := [], harness := (true, "76462da7ac58ffca1d1881d528bbb0475677a9f9d215d116014ac1f5ba280cdc"), looks := true }, kinds := [], alts := [], laidByText := true, laidKinds := [.handle], laidTests := true, laidLooks := .later }
def ValueWritesCardSaid : Prop := Claim7.holds Tryz.pinned (.plain (OpenSpec.ofChange valueWritesSpec)) valueWritesCard

/-- THE SECOND FORM's CARD OF 'hyglaw8.ValueReads'. -/
def valueReadsUptoCard : Claim7 := { stood := { row := valueReadsUptoRow, standIns := [], harness := (true, "76462da7ac58ffca1d1881d528bbb0475677a9f9d215d116014ac1f5ba280cdc"), looks := true }, kinds := [], alts := [], laidByText := true, laidKinds := [.handle], laidTests := true, laidLooks := .later }
def ValueReadsUptoCardSaid : Prop := Claim7.holds Tryz.pinned (.plain (OpenSpec.upto valueReadsSpec)) valueReadsUptoCard

/-- THE SECOND FORM's CARD OF 'hyglaw8.ValueSame'. -/
def valueSameUptoCard : Claim7 := { stood := { row := valueSameUptoRow, standIns := [], harness := (true, "76462da7ac58ffca1d1881d528bbb0475677a9f9d215d116014ac1f5ba280cdc"), looks := true }, kinds := [], alts := [], laidByText := true, laidKinds := [.handle], laidTests := true, laidLooks := .later }
def ValueSameUptoCardSaid : Prop := Claim7.holds Tryz.pinned (.plain (OpenSpec.upto valueSameSpec)) valueSameUptoCard

/-- THE SECOND FORM's CARD OF 'hyglaw8.ValueTwice'. -/
def valueTwiceUptoCard : Claim7 := { stood := { row := valueTwiceUptoRow, standIns := [], harness := (true, "76462da7ac58ffca1d1881d528bbb0475677a9f9d215d116014ac1f5ba280cdc"), looks := true }, kinds := [], alts := [], laidByText := true, laidKinds := [.handle], laidTests := true, laidLooks := .later }
def ValueTwiceUptoCardSaid : Prop := Claim7.holds Tryz.pinned (.plain (OpenSpec.upto valueTwiceSpec)) valueTwiceUptoCard

/-- THE SECOND FORM's CARD OF 'hyglaw8.ValueLast'. -/
def valueLastUptoCard : Claim7 := { stood := { row := valueLastUptoRow, standIns := [], harness := (true, "76462da7ac58ffca1d1881d528bbb0475677a9f9d215d116014ac1f5ba280cdc"), looks := true }, kinds := [], alts := [], laidByText := true, laidKinds := [.handle], laidTests := true, laidLooks := .later }
def ValueLastUptoCardSaid : Prop := Claim7.holds Tryz.pinned (.plain (OpenSpec.upto valueLastSpec)) valueLastUptoCard

/-- THE SECOND FORM's CARD OF 'hyglaw8.ValueHalves'. -/
def valueHalvesUptoCard : Claim7 := { stood := { row := valueHalvesUptoRow, standIns := [], harness := (true, "76462da7ac58ffca1d1881d528bbb0475677a9f9d215d116014ac1f5ba280cdc"), looks := true }, kinds := [], alts := [], laidByText := true, laidKinds := [.handle], laidTests := true, laidLooks := .later }
def ValueHalvesUptoCardSaid : Prop := Claim7.holds Tryz.pinned (.plain (OpenSpec.upto valueHalvesSpec)) valueHalvesUptoCard

/-- THE SECOND FORM's CARD OF 'hyglaw8.ValueBack'. -/
def valueBackUptoCard : Claim7 := { stood := { row := valueBackUptoRow, standIns := [], harness := (true, "76462da7ac58ffca1d1881d528bbb0475677a9f9d215d116014ac1f5ba280cdc"), looks := true }, kinds := [], alts := [], laidByText := true, laidKinds := [.handle], laidTests := true, laidLooks := .later }
def ValueBackUptoCardSaid : Prop := Claim7.holds Tryz.pinned (.plain (OpenSpec.upto valueBackSpec)) valueBackUptoCard

/-- THE SECOND FORM's CARD OF 'hyglaw8.ValueWrites'. -/
def valueWritesUptoCard : Claim7 := { stood := { row := valueWritesUptoRow, standIns := [], harness := (true, "76462da7ac58ffca1d1881d528bbb0475677a9f9d215d116014ac1f5ba280cdc"), looks := true }, kinds := [], alts := [], laidByText := true, laidKinds := [.handle], laidTests := true, laidLooks := .later }
def ValueWritesUptoCardSaid : Prop := Claim7.holds Tryz.pinned (.plain (OpenSpec.upto valueWritesSpec)) valueWritesUptoCard
end Rows
end Go.Proofs.YtnaifpmeejbanaaGreatDoor
