/-
  DERIVED. GIVEN WITH THE SEED: THE CARDS: each row of YtbpllbpgaiphaaaGreatDoorRows.lean that lists a variable, with what it lists TIED to the program's text (the seventh form; the later family's looks); each row that meets fmt, with fmt's text TOLD by the authors' own Lean function (tested against real Go, not proved from fmt's source: count such statements apart). THE CARD IS WHAT COUNTS. Prove the row's statement (the work); the ties are given (YtbpllbpgaiphaaaGreatDoorTie.lean); close each card by the builder's one call (the guide's Derived/Test/ToyasCard.lean, 'card_holds'). Laid BY PROGRAM, IN A SANDBOX (cutbox-door.mjs). By AI agents, Wed Nov 11 2026. No macro, syntax, notation, axiom, sorry.
-/
import Derived.Test.YtbpllbpgaiphaaaGreatDoorRows
import GoSem.ClaimSeven
namespace Go.Proofs.YtbpllbpgaiphaaaGreatDoor
namespace Rows

/-- THE TIED CARD OF 'hyglaw28.ScriptFine'. -/
def scriptFineCard : Claim7 := { stood := { row := scriptFineRow, standIns := [], harness := (true, "0df34d0df3c3d45c02eac3e5b40ab9d58ba176100cd2773de7d1697ebc8d4bc1"), looks := true }, kinds := [], alts := [], laidByText := true, laidKinds := [.data, .data, .data, .handle], laidTests := true, laidLooks := .later }
def ScriptFineCardSaid : Prop := Claim7.holds Tryz.pinned (.plain (OpenSpec.ofChange scriptFineSpec)) scriptFineCard

/-- THE TIED CARD OF 'hyglaw28.ScriptMakes'. -/
def scriptMakesCard : Claim7 := { stood := { row := scriptMakesRow, standIns := [], harness := (true, "0df34d0df3c3d45c02eac3e5b40ab9d58ba176100cd2773de7d1697ebc8d4bc1"), looks := true }, kinds := [], alts := [], laidByText := true, laidKinds := [.data, .data, .data, .handle], laidTests := true, laidLooks := .later }
def ScriptMakesCardSaid : Prop := Claim7.holds Tryz.pinned (.plain (OpenSpec.ofChange scriptMakesSpec)) scriptMakesCard

/-- THE SECOND FORM's CARD OF 'hyglaw28.ScriptFine'. -/
def scriptFineUptoCard : Claim7 := { stood := { row := scriptFineUptoRow, standIns := [], harness := (true, "0df34d0df3c3d45c02eac3e5b40ab9d58ba176100cd2773de7d1697ebc8d4bc1"), looks := true }, kinds := [], alts := [], laidByText := true, laidKinds := [.data, .data, .data, .handle], laidTests := true, laidLooks := .later }
def ScriptFineUptoCardSaid : Prop := Claim7.holds Tryz.pinned (.plain (OpenSpec.upto scriptFineSpec)) scriptFineUptoCard

/-- THE SECOND FORM's CARD OF 'hyglaw28.ScriptMakes'. -/
def scriptMakesUptoCard : Claim7 := { stood := { row := scriptMakesUptoRow, standIns := [], harness := (true, "0df34d0df3c3d45c02eac3e5b40ab9d58ba176100cd2773de7d1697ebc8d4bc1"), looks := true }, kinds := [], alts := [], laidByText := true, laidKinds := [.data, .data, .data, .handle], laidTests := true, laidLooks := .later }
def ScriptMakesUptoCardSaid : Prop := Claim7.holds Tryz.pinned (.plain (OpenSpec.upto scriptMakesSpec)) scriptMakesUptoCard
end Rows
end Go.Proofs.YtbpllbpgaiphaaaGreatDoor
