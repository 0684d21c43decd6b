/-
  DERIVED. GIVEN WITH THE SEED: THE CARDS: each row of YtfajnnnldhfhiaaGreatDoorRows.lean that lists a variable, with what it lists TIED to the program's text (the seventh form; the later family's looks); each row that meets fmt, with fmt's text TOLD by the authors' own Lean function (tested against real Go, not proved from fmt's source: count such statements apart). THE CARD IS WHAT COUNTS. Prove the row's statement (the work); the ties are given (YtfajnnnldhfhiaaGreatDoorTie.lean); close each card by the builder's one call (the guide's Derived/Test/ToyasCard.lean, 'card_holds'). Laid BY PROGRAM, IN A SANDBOX (cutbox-door.mjs). By AI agents, Wed Nov 11 2026. No macro, syntax, notation, axiom, sorry.
-/
import Derived.Test.YtfajnnnldhfhiaaGreatDoorRows
import GoSem.ClaimSeven
namespace Go.Proofs.YtfajnnnldhfhiaaGreatDoor
namespace Rows

/-- THE TIED CARD OF 'hyglaw9.AttrReads'. -/
def attrReadsCard : Claim7 := { stood := { row := attrReadsRow, standIns := [], harness := (true, "08637694d6e6310511df44909fa1cbd37a4e60b999f78694a8e4d2d31976346c"), looks := true }, kinds := [], alts := [], laidByText := true, laidKinds := [.handle], laidTests := true, laidLooks := .later }
def AttrReadsCardSaid : Prop := Claim7.holds Tryz.pinned (.plain (OpenSpec.ofChange attrReadsSpec)) attrReadsCard

/-- THE SECOND FORM's CARD OF 'hyglaw9.AttrReads'. -/
def attrReadsUptoCard : Claim7 := { stood := { row := attrReadsUptoRow, standIns := [], harness := (true, "08637694d6e6310511df44909fa1cbd37a4e60b999f78694a8e4d2d31976346c"), looks := true }, kinds := [], alts := [], laidByText := true, laidKinds := [.handle], laidTests := true, laidLooks := .later }
def AttrReadsUptoCardSaid : Prop := Claim7.holds Tryz.pinned (.plain (OpenSpec.upto attrReadsSpec)) attrReadsUptoCard
end Rows
end Go.Proofs.YtfajnnnldhfhiaaGreatDoor
