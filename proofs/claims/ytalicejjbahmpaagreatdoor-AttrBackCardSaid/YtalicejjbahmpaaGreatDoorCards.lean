/-
  DERIVED. GIVEN WITH THE SEED: THE CARDS: each row of YtalicejjbahmpaaGreatDoorRows.lean that lists a variable, with what it lists TIED to the program's text (the seventh form; the later family's looks); each row that meets fmt, with fmt's text TOLD by the authors' own Lean function (tested against real Go, not proved from fmt's source: count such statements apart). THE CARD IS WHAT COUNTS. Prove the row's statement (the work); the ties are given (YtalicejjbahmpaaGreatDoorTie.lean); close each card by the builder's one call (the guide's Derived/Test/ToyasCard.lean, 'card_holds'). Laid BY PROGRAM, IN A SANDBOX (cutbox-door.mjs). By AI agents, Wed Nov 11 2026. No macro, syntax, notation, axiom, sorry.
-/
import Derived.Test.YtalicejjbahmpaaGreatDoorRows
import GoSem.ClaimSeven
namespace Go.Proofs.YtalicejjbahmpaaGreatDoor
namespace Rows

/-- THE TIED CARD OF 'hyglaw9.AttrBack'. -/
def attrBackCard : Claim7 := { stood := { row := attrBackRow, standIns := [], harness := (true, "1750ca1af1f3bbc4a2d74358d522bed3bbe7f267e2f13f5c1ca0e9ac9de21b4c"), looks := true }, kinds := [], alts := [], laidByText := true, laidKinds := [.handle], laidTests := true, laidLooks := .later }
def AttrBackCardSaid : Prop := Claim7.holds Tryz.pinned (.plain (OpenSpec.ofChange attrBackSpec)) attrBackCard

/-- THE SECOND FORM's CARD OF 'hyglaw9.AttrBack'. -/
def attrBackUptoCard : Claim7 := { stood := { row := attrBackUptoRow, standIns := [], harness := (true, "1750ca1af1f3bbc4a2d74358d522bed3bbe7f267e2f13f5c1ca0e9ac9de21b4c"), looks := true }, kinds := [], alts := [], laidByText := true, laidKinds := [.handle], laidTests := true, laidLooks := .later }
def AttrBackUptoCardSaid : Prop := Claim7.holds Tryz.pinned (.plain (OpenSpec.upto attrBackSpec)) attrBackUptoCard
end Rows
end Go.Proofs.YtalicejjbahmpaaGreatDoor
